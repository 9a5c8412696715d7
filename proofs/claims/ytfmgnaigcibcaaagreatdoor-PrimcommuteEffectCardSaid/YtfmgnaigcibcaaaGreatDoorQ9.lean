/- Walks: the tests of an exchange. Walks: two changes of bytes exchanged. Walks: the paths of an exchange. Walks: the contents of an exchange. -/
import Derived.Test.YtfmgnaigcibcaaaGreatDoorQa
import Derived.Deep.DrawnRows
import Derived.Deep.CutBlock
import Derived.Deep.DeepCutAuto
import Derived.Test.YtfmgnaigcibcaaaGreatDoorQ7
set_option linter.unusedSimpArgs false
set_option linter.unusedVariables false
namespace Go.Proofs.YtfmgnaigcibcaaaGreatDoor
open Go.RowKit

/-- The cells of an exchange. -/
abbrev xarr (a b c d : Pv) : Array Value :=
  #[.int .i64 a.kind, .string a.path, .string a.to_, .int .i64 a.ty, .int .i64 a.at_, .slice a.A1 a.n1 a.c1, .slice a.A2 a.n2 a.c2, .int .i64 a.off, .string a.so, .string a.sn, .int .i64 a.om, .int .i64 a.nm,
    .int .i64 b.kind, .string b.path, .string b.to_, .int .i64 b.ty, .int .i64 b.at_, .slice b.A1 b.n1 b.c1, .slice b.A2 b.n2 b.c2, .int .i64 b.off, .string b.so, .string b.sn, .int .i64 b.om, .int .i64 b.nm,
    .int .i64 c.kind, .string c.path, .string c.to_, .int .i64 c.ty, .int .i64 c.at_, .slice c.A1 c.n1 c.c1, .slice c.A2 c.n2 c.c2, .int .i64 c.off, .string c.so, .string c.sn, .int .i64 c.om, .int .i64 c.nm,
    .int .i64 d.kind, .string d.path, .string d.to_, .int .i64 d.ty, .int .i64 d.at_, .slice d.A1 d.n1 d.c1, .slice d.A2 d.n2 d.c2, .int .i64 d.off, .string d.so, .string d.sn, .int .i64 d.om, .int .i64 d.nm]

def Qm.xmoves (ak : Int) (at_ : ByteArray) (bk : Int) (bp : ByteArray) : Bool := ak != 5 || (bk != 5 || !Qm.eqB at_ bp)

set_option maxHeartbeats 4000000 in
set_option maxRecDepth 100000 in
theorem xmoves_any (a b c d : Pv) (bX : Nat) (w : World) (hbX : Blk w bX 128 (xarr a b c d)) :
    Calls Tryz.prog 95 #[.pointer (some ⟨bX, 0, none⟩)] w (Ret (.bool (Qm.xmoves a.kind a.to_ b.kind b.path)) w) := by
  have hcX := hbX.cell
  have hlX := hbX.lt
  cases k1 : (a.kind != 5)
  · cases k2 : (b.kind != 5)
    ·
      go_enter Tryz.func95, Tryz.ntmps95
      have hx := Ext.refl w
      go_wp2
      go_quiet (fail)
      go_wp2
      (go_ret; refine Ret.mk ?_ ?_; (focus (simp [Qm.xmoves, Qm.eqB, k1, k2]; done)); (focus (exact EX; done)))
    ·
      go_enter Tryz.func95, Tryz.ntmps95
      have hx := Ext.refl w
      go_wp2
      go_quiet (fail)
      go_wp2
      (go_ret; refine Ret.mk ?_ ?_; (focus (simp [Qm.xmoves, k1, k2]; done)); (focus (exact EX; done)))
  ·
    go_enter Tryz.func95, Tryz.ntmps95
    have hx := Ext.refl w
    go_wp2
    go_quiet (fail)
    go_wp2
    (go_ret; refine Ret.mk ?_ ?_; (focus (simp [Qm.xmoves, k1]; done)); (focus (exact EX; done)))

def Qm.xempty (bk ak : Int) (ap cp : ByteArray) : Bool := bk != 4 || (!Qm.frees ak || !Qm.below ap cp)

set_option maxHeartbeats 4000000 in
set_option maxRecDepth 100000 in
theorem xempty_any (a b c d : Pv) (bX : Nat) (w : World) (hbX : Blk w bX 128 (xarr a b c d)) (h1 : c.path.size ≤ 4611686018427387904) :
    Calls Tryz.prog 94 #[.pointer (some ⟨bX, 0, none⟩)] w (Ret (.bool (Qm.xempty b.kind a.kind a.path c.path)) w) := by
  obtain ⟨hcX, hfX, hlX⟩ := hbX.all
  cases k1 : (b.kind != 4)
  · have hfr := fun W => frees_any a W
    cases k2 : Qm.frees a.kind
    all_goals
      rw [k2] at hfr
      have K2 := Lib.hid k2
      have Hfr := Lib.hid hfr
      clear k2 hfr
      go_enter Tryz.func94, Tryz.ntmps94
      have hx := Ext.refl w
      go_wp2
      refine wp_region_ext (by kernel_rfl) (by kernel_rfl) ?_
      repeat (first | go_big_quiet_skip | (go_big_quiet_want; first | (go_big_quiet_op; go_big_quiet_on) | (apply quiet_at; intro W hW; have hxW := Ext.trans (a := w) EX hW; have hnX := BB hW (bX); (first | simp [↓heap_drew_at, ↓heap_drewN_at, ↓heap_alloc_at, ↓heap_set_at, ne_two, ne_three, ne_two_left, ne_three_left, ↓hbX.eq, hbX.lt, hbX.ne] at hnX | simp [↓heap_drew_at, ↓heap_drewN_at, ↓heap_alloc_at, ↓heap_set_at, ne_two, ne_three, ne_two_left, ne_three_left] at hnX); (try clear hbX hcX hfX hlX); have hbX := Blk.mk hnX; clear hnX; obtain ⟨hcX, hfX, hlX⟩ := hbX.all; go_simp; (first | exact rfl | (simp only [Oper.quietUpon, true_and]; first | exact rfl | (first | (go_at_call 117; exact quiet_call hW (Hfr.out _) (fun _ _ h => h)) | go_at_call 118; exact quiet_call hW (below_any _ _ _ h1) (fun _ _ h => h))) | (first | (go_at_call 117; exact quiet_call hW (Hfr.out _) (fun _ _ h => h)) | go_at_call 118; exact quiet_call hW (below_any _ _ _ h1) (fun _ _ h => h))); go_big_quiet_on; simp only [Act.put, sA, s0, sS])))
      refine wpQuiet_nil ?_
      intro w1 hx0
      have hy := Ext.trans (a := w) EX hx0; clear hx; have hx := hy; clear hy; have hnX := BB hx0 (bX); (first | simp [↓heap_drew_at, ↓heap_drewN_at, ↓heap_alloc_at, ↓heap_set_at, ne_two, ne_three, ne_two_left, ne_three_left, ↓hbX.eq, hbX.lt, hbX.ne] at hnX | simp [↓heap_drew_at, ↓heap_drewN_at, ↓heap_alloc_at, ↓heap_set_at, ne_two, ne_three, ne_two_left, ne_three_left] at hnX); (try clear hbX hcX hfX hlX); have hbX := Blk.mk hnX; clear hnX; obtain ⟨hcX, hfX, hlX⟩ := hbX.all; (try clear hx0)
      go_wp2
      (go_ret; refine Ret.mk ?_ ?_; (focus (simp [Qm.xempty, k1, K2.out]; done)); (focus (exact EX; done)))
  ·
    go_enter Tryz.func94, Tryz.ntmps94
    have hx := Ext.refl w
    go_wp2
    refine wp_region_ext (by kernel_rfl) (by kernel_rfl) ?_
    repeat (first | go_big_quiet_skip | (go_big_quiet_want; first | (go_big_quiet_op; go_big_quiet_on) | (apply quiet_at; intro W hW; have hxW := Ext.trans (a := w) EX hW; have hnX := BB hW (bX); (first | simp [↓heap_drew_at, ↓heap_drewN_at, ↓heap_alloc_at, ↓heap_set_at, ne_two, ne_three, ne_two_left, ne_three_left, ↓hbX.eq, hbX.lt, hbX.ne] at hnX | simp [↓heap_drew_at, ↓heap_drewN_at, ↓heap_alloc_at, ↓heap_set_at, ne_two, ne_three, ne_two_left, ne_three_left] at hnX); (try clear hbX hcX hfX hlX); have hbX := Blk.mk hnX; clear hnX; obtain ⟨hcX, hfX, hlX⟩ := hbX.all; go_simp; (first | exact rfl | (simp only [Oper.quietUpon, true_and]; first | exact rfl | (fail)) | (fail)); go_big_quiet_on; simp only [Act.put, sA, s0, sS])))
    refine wpQuiet_nil ?_
    intro w1 hx0
    have hy := Ext.trans (a := w) EX hx0; clear hx; have hx := hy; clear hy; have hnX := BB hx0 (bX); (first | simp [↓heap_drew_at, ↓heap_drewN_at, ↓heap_alloc_at, ↓heap_set_at, ne_two, ne_three, ne_two_left, ne_three_left, ↓hbX.eq, hbX.lt, hbX.ne] at hnX | simp [↓heap_drew_at, ↓heap_drewN_at, ↓heap_alloc_at, ↓heap_set_at, ne_two, ne_three, ne_two_left, ne_three_left] at hnX); (try clear hbX hcX hfX hlX); have hbX := Blk.mk hnX; clear hnX; obtain ⟨hcX, hfX, hlX⟩ := hbX.all; (try clear hx0)
    go_wp2
    (go_ret; refine Ret.mk ?_ ?_; (focus (simp [Qm.xempty, k1]; done)); (focus (exact EX; done)))

def Qm.news (k : Int) (p t : ByteArray) (k' : Int) (p' t' : ByteArray) : Bool :=
  !(Qm.newPath k p t).2 || (!(Qm.newPath k' p' t').2 || !Qm.eqB (Qm.newPath k p t).1 (Qm.newPath k' p' t').1)

set_option maxHeartbeats 4000000 in
set_option maxRecDepth 100000 in
theorem news_any (p q : Pv) (w : World) :
    Calls Tryz.prog 115 #[p.v, q.v] w (Ret (.bool (Qm.news p.kind p.path p.to_ q.kind q.path q.to_)) w) := by
  have hp := fun W => newPath_any p W
  have hq := fun W => newPath_any q W
  obtain ⟨s, hs⟩ : ∃ s, s = (Qm.newPath p.kind p.path p.to_).1 := ⟨_, rfl⟩
  obtain ⟨t, ht⟩ : ∃ t, t = (Qm.newPath q.kind q.path q.to_).1 := ⟨_, rfl⟩
  rw [← hs] at hp
  rw [← ht] at hq
  cases k1 : (Qm.newPath p.kind p.path p.to_).2
  all_goals cases k2 : (Qm.newPath q.kind q.path q.to_).2
  all_goals
    rw [k1] at hp
    rw [k2] at hq
    have Hp := Lib.hid hp
    have Hq := Lib.hid hq
    have HM : Hid (Qm.news p.kind p.path p.to_ q.kind q.path q.to_ = _) := Lib.hid (by unfold Qm.news; rw [k1, k2, ← hs, ← ht])
    clear k1 k2 hs ht hp hq
    go_enter Tryz.func115, Tryz.ntmps115
    have hx := Ext.refl w
    go_wp2_with fail
    refine (Hp.out _).mono ?_
    rintro e w1 ⟨rfl, hx0⟩
    have hy := Ext.trans (a := w) EX hx0; clear hx; have hx := hy; clear hy; have hn0 := BB hx0 (w.heap.size); have hn1 := BB hx0 (w.heap.size + 1); (first | simp [↓heap_drew_at, ↓heap_drewN_at, ↓heap_alloc_at, ↓heap_set_at, ne_two, ne_three, ne_two_left, ne_three_left, ↓hb0.eq, hb0.lt, hb0.ne, ↓hb1.eq, hb1.lt, hb1.ne] at hn0 hn1 | simp [↓heap_drew_at, ↓heap_drewN_at, ↓heap_alloc_at, ↓heap_set_at, ne_two, ne_three, ne_two_left, ne_three_left] at hn0 hn1); (try clear hb0 hc0 hf0 hl0); (try clear hb1 hc1 hf1 hl1); have hb0 := Blk.mk hn0; clear hn0; obtain ⟨hc0, hf0, hl0⟩ := hb0.all; have hb1 := Blk.mk hn1; clear hn1; obtain ⟨hc1, hf1, hl1⟩ := hb1.all; (try clear hx0)
    go_wp2_with fail
    refine (Hq.out _).mono ?_
    rintro e w1 ⟨rfl, hx0⟩
    have hy := Ext.trans (a := w) EX hx0; clear hx; have hx := hy; clear hy; have hn0 := BB hx0 (w.heap.size); have hn1 := BB hx0 (w.heap.size + 1); (first | simp [↓heap_drew_at, ↓heap_drewN_at, ↓heap_alloc_at, ↓heap_set_at, ne_two, ne_three, ne_two_left, ne_three_left, ↓hb0.eq, hb0.lt, hb0.ne, ↓hb1.eq, hb1.lt, hb1.ne] at hn0 hn1 | simp [↓heap_drew_at, ↓heap_drewN_at, ↓heap_alloc_at, ↓heap_set_at, ne_two, ne_three, ne_two_left, ne_three_left] at hn0 hn1); (try clear hb0 hc0 hf0 hl0); (try clear hb1 hc1 hf1 hl1); have hb0 := Blk.mk hn0; clear hn0; obtain ⟨hc0, hf0, hl0⟩ := hb0.all; have hb1 := Blk.mk hn1; clear hn1; obtain ⟨hc1, hf1, hl1⟩ := hb1.all; (try clear hx0)
    go_wp2_with fail
    all_goals (go_ret; refine Ret.mk ?_ ?_; (focus (rw [HM.out]; simp [Qm.eqB, *]; done)); (focus (exact EX; done)))

def Qm.xfree (a b c d : Pv) : Bool :=
  !((Qm.newPath c.kind c.path c.to_).2 && Qm.frees a.kind && Qm.eqB (Qm.newPath c.kind c.path c.to_).1 a.path) &&
    (Qm.news a.kind a.path a.to_ b.kind b.path b.to_ && Qm.news d.kind d.path d.to_ c.kind c.path c.to_)

set_option maxHeartbeats 8000000 in
set_option maxRecDepth 100000 in
theorem xfree_any (a b c d : Pv) (bX : Nat) (w : World) (hbX : Blk w bX 128 (xarr a b c d)) :
    Calls Tryz.prog 93 #[.pointer (some ⟨bX, 0, none⟩)] w (Ret (.bool (Qm.xfree a b c d)) w) := by
  obtain ⟨hcX, hfX, hlX⟩ := hbX.all
  have hp := fun W => newPath_any c W
  have hr := fun W => frees_any a W
  have hn := fun W => news_any a b W
  have hm := fun W => news_any d c W
  have hx := Ext.refl w
  have HM : Hid (Qm.xfree a b c d = _) := Lib.hid (by unfold Qm.xfree; rfl)
  generalize Qm.xfree a b c d = R at HM ⊢
  generalize (Qm.newPath c.kind c.path c.to_).1 = s at hp HM
  generalize Qm.news d.kind d.path d.to_ c.kind c.path c.to_ = N2 at hm HM
  generalize (Qm.newPath c.kind c.path c.to_).2 = k1 at hp HM
  generalize Qm.frees a.kind = k2 at hr HM
  generalize Qm.news a.kind a.path a.to_ b.kind b.path b.to_ = k3 at hn HM
  have Hp := Lib.hid hp
  have Hr := Lib.hid hr
  have Hn := Lib.hid hn
  have Hm := Lib.hid hm
  clear hp hr hn hm
  cases k1
  · cases k3
    all_goals
      go_enter Tryz.func93, Tryz.ntmps93
      go_wp2_with fail
      refine (Hp.out _).mono ?_
      rintro e w1 ⟨rfl, hx0⟩
      have hy := Ext.trans (a := w) EX hx0; clear hx; have hx := hy; clear hy; have hnX := BB hx0 (bX); (first | simp [↓heap_drew_at, ↓heap_drewN_at, ↓heap_alloc_at, ↓heap_set_at, ne_two, ne_three, ne_two_left, ne_three_left, ↓hbX.eq, hbX.lt, hbX.ne] at hnX | simp [↓heap_drew_at, ↓heap_drewN_at, ↓heap_alloc_at, ↓heap_set_at, ne_two, ne_three, ne_two_left, ne_three_left] at hnX); (try clear hbX hcX hfX hlX); have hbX := Blk.mk hnX; clear hnX; obtain ⟨hcX, hfX, hlX⟩ := hbX.all; (try clear hx0)
      go_wp2_with fail
      refine wp_region_ext (by kernel_rfl) (by kernel_rfl) ?_
      repeat (first | go_big_quiet_skip | (go_big_quiet_want; first | (go_big_quiet_op; go_big_quiet_on) | (apply quiet_at; intro W hW; have hxW := Ext.trans (a := w) EX hW; have hnX := BB hW (bX); (first | simp [↓heap_drew_at, ↓heap_drewN_at, ↓heap_alloc_at, ↓heap_set_at, ne_two, ne_three, ne_two_left, ne_three_left, ↓hbX.eq, hbX.lt, hbX.ne] at hnX | simp [↓heap_drew_at, ↓heap_drewN_at, ↓heap_alloc_at, ↓heap_set_at, ne_two, ne_three, ne_two_left, ne_three_left] at hnX); (try clear hbX hcX hfX hlX); have hbX := Blk.mk hnX; clear hnX; obtain ⟨hcX, hfX, hlX⟩ := hbX.all; go_simp; (first | exact rfl | (simp only [Oper.quietUpon, true_and]; first | exact rfl | (first | (go_at_call 117; exact quiet_call hW (Hr.out _) (fun _ _ h => h)) | with_reducible exact quiet_call hW (Hn.out _) (fun _ _ h => Ret.bcell h) | with_reducible exact quiet_call hW (Hm.out _) (fun _ _ h => Ret.bcell h))) | (first | (go_at_call 117; exact quiet_call hW (Hr.out _) (fun _ _ h => h)) | with_reducible exact quiet_call hW (Hn.out _) (fun _ _ h => Ret.bcell h) | with_reducible exact quiet_call hW (Hm.out _) (fun _ _ h => Ret.bcell h))); go_big_quiet_on; simp only [Act.put, sA, s0, sS])))
      refine wpQuiet_nil ?_
      intro w1 hx0
      have hy := Ext.trans (a := w) EX hx0; clear hx; have hx := hy; clear hy; have hnX := BB hx0 (bX); (first | simp [↓heap_drew_at, ↓heap_drewN_at, ↓heap_alloc_at, ↓heap_set_at, ne_two, ne_three, ne_two_left, ne_three_left, ↓hbX.eq, hbX.lt, hbX.ne] at hnX | simp [↓heap_drew_at, ↓heap_drewN_at, ↓heap_alloc_at, ↓heap_set_at, ne_two, ne_three, ne_two_left, ne_three_left] at hnX); (try clear hbX hcX hfX hlX); have hbX := Blk.mk hnX; clear hnX; obtain ⟨hcX, hfX, hlX⟩ := hbX.all; (try clear hx0)
      go_wp2
      (go_ret; refine Ret.mk ?_ ?_; (focus (rw [HM.out]; simp [Qm.eqB, *]; done)); (focus (exact EX; done)))
  cases k2
  · cases k3
    all_goals
      go_enter Tryz.func93, Tryz.ntmps93
      go_wp2_with fail
      refine (Hp.out _).mono ?_
      rintro e w1 ⟨rfl, hx0⟩
      have hy := Ext.trans (a := w) EX hx0; clear hx; have hx := hy; clear hy; have hnX := BB hx0 (bX); (first | simp [↓heap_drew_at, ↓heap_drewN_at, ↓heap_alloc_at, ↓heap_set_at, ne_two, ne_three, ne_two_left, ne_three_left, ↓hbX.eq, hbX.lt, hbX.ne] at hnX | simp [↓heap_drew_at, ↓heap_drewN_at, ↓heap_alloc_at, ↓heap_set_at, ne_two, ne_three, ne_two_left, ne_three_left] at hnX); (try clear hbX hcX hfX hlX); have hbX := Blk.mk hnX; clear hnX; obtain ⟨hcX, hfX, hlX⟩ := hbX.all; (try clear hx0)
      go_wp2_with fail
      refine wp_region_ext (by kernel_rfl) (by kernel_rfl) ?_
      repeat (first | go_big_quiet_skip | (go_big_quiet_want; first | (go_big_quiet_op; go_big_quiet_on) | (apply quiet_at; intro W hW; have hxW := Ext.trans (a := w) EX hW; have hnX := BB hW (bX); (first | simp [↓heap_drew_at, ↓heap_drewN_at, ↓heap_alloc_at, ↓heap_set_at, ne_two, ne_three, ne_two_left, ne_three_left, ↓hbX.eq, hbX.lt, hbX.ne] at hnX | simp [↓heap_drew_at, ↓heap_drewN_at, ↓heap_alloc_at, ↓heap_set_at, ne_two, ne_three, ne_two_left, ne_three_left] at hnX); (try clear hbX hcX hfX hlX); have hbX := Blk.mk hnX; clear hnX; obtain ⟨hcX, hfX, hlX⟩ := hbX.all; go_simp; (first | exact rfl | (simp only [Oper.quietUpon, true_and]; first | exact rfl | (first | (go_at_call 117; exact quiet_call hW (Hr.out _) (fun _ _ h => h)) | with_reducible exact quiet_call hW (Hn.out _) (fun _ _ h => Ret.bcell h) | with_reducible exact quiet_call hW (Hm.out _) (fun _ _ h => Ret.bcell h))) | (first | (go_at_call 117; exact quiet_call hW (Hr.out _) (fun _ _ h => h)) | with_reducible exact quiet_call hW (Hn.out _) (fun _ _ h => Ret.bcell h) | with_reducible exact quiet_call hW (Hm.out _) (fun _ _ h => Ret.bcell h))); go_big_quiet_on; simp only [Act.put, sA, s0, sS])))
      refine wpQuiet_nil ?_
      intro w1 hx0
      have hy := Ext.trans (a := w) EX hx0; clear hx; have hx := hy; clear hy; have hnX := BB hx0 (bX); (first | simp [↓heap_drew_at, ↓heap_drewN_at, ↓heap_alloc_at, ↓heap_set_at, ne_two, ne_three, ne_two_left, ne_three_left, ↓hbX.eq, hbX.lt, hbX.ne] at hnX | simp [↓heap_drew_at, ↓heap_drewN_at, ↓heap_alloc_at, ↓heap_set_at, ne_two, ne_three, ne_two_left, ne_three_left] at hnX); (try clear hbX hcX hfX hlX); have hbX := Blk.mk hnX; clear hnX; obtain ⟨hcX, hfX, hlX⟩ := hbX.all; (try clear hx0)
      go_wp2
      (go_ret; refine Ret.mk ?_ ?_; (focus (rw [HM.out]; simp [Qm.eqB, *]; done)); (focus (exact EX; done)))
  cases he : (s.toList == a.path.toList)
  · cases k3
    all_goals
      go_enter Tryz.func93, Tryz.ntmps93
      go_wp2_with fail
      refine (Hp.out _).mono ?_
      rintro e w1 ⟨rfl, hx0⟩
      have hy := Ext.trans (a := w) EX hx0; clear hx; have hx := hy; clear hy; have hnX := BB hx0 (bX); (first | simp [↓heap_drew_at, ↓heap_drewN_at, ↓heap_alloc_at, ↓heap_set_at, ne_two, ne_three, ne_two_left, ne_three_left, ↓hbX.eq, hbX.lt, hbX.ne] at hnX | simp [↓heap_drew_at, ↓heap_drewN_at, ↓heap_alloc_at, ↓heap_set_at, ne_two, ne_three, ne_two_left, ne_three_left] at hnX); (try clear hbX hcX hfX hlX); have hbX := Blk.mk hnX; clear hnX; obtain ⟨hcX, hfX, hlX⟩ := hbX.all; (try clear hx0)
      go_wp2_with fail
      refine wp_region_ext (by kernel_rfl) (by kernel_rfl) ?_
      repeat (first | go_big_quiet_skip | (go_big_quiet_want; first | (go_big_quiet_op; go_big_quiet_on) | (apply quiet_at; intro W hW; have hxW := Ext.trans (a := w) EX hW; have hnX := BB hW (bX); (first | simp [↓heap_drew_at, ↓heap_drewN_at, ↓heap_alloc_at, ↓heap_set_at, ne_two, ne_three, ne_two_left, ne_three_left, ↓hbX.eq, hbX.lt, hbX.ne] at hnX | simp [↓heap_drew_at, ↓heap_drewN_at, ↓heap_alloc_at, ↓heap_set_at, ne_two, ne_three, ne_two_left, ne_three_left] at hnX); (try clear hbX hcX hfX hlX); have hbX := Blk.mk hnX; clear hnX; obtain ⟨hcX, hfX, hlX⟩ := hbX.all; go_simp; (first | exact rfl | (simp only [Oper.quietUpon, true_and]; first | exact rfl | (first | (go_at_call 117; exact quiet_call hW (Hr.out _) (fun _ _ h => h)) | with_reducible exact quiet_call hW (Hn.out _) (fun _ _ h => Ret.bcell h) | with_reducible exact quiet_call hW (Hm.out _) (fun _ _ h => Ret.bcell h))) | (first | (go_at_call 117; exact quiet_call hW (Hr.out _) (fun _ _ h => h)) | with_reducible exact quiet_call hW (Hn.out _) (fun _ _ h => Ret.bcell h) | with_reducible exact quiet_call hW (Hm.out _) (fun _ _ h => Ret.bcell h))); go_big_quiet_on; simp only [Act.put, sA, s0, sS])))
      refine wpQuiet_nil ?_
      intro w1 hx0
      have hy := Ext.trans (a := w) EX hx0; clear hx; have hx := hy; clear hy; have hnX := BB hx0 (bX); (first | simp [↓heap_drew_at, ↓heap_drewN_at, ↓heap_alloc_at, ↓heap_set_at, ne_two, ne_three, ne_two_left, ne_three_left, ↓hbX.eq, hbX.lt, hbX.ne] at hnX | simp [↓heap_drew_at, ↓heap_drewN_at, ↓heap_alloc_at, ↓heap_set_at, ne_two, ne_three, ne_two_left, ne_three_left] at hnX); (try clear hbX hcX hfX hlX); have hbX := Blk.mk hnX; clear hnX; obtain ⟨hcX, hfX, hlX⟩ := hbX.all; (try clear hx0)
      go_wp2
      (go_ret; refine Ret.mk ?_ ?_; (focus (rw [HM.out]; simp [Qm.eqB, *]; done)); (focus (exact EX; done)))
  ·
    go_enter Tryz.func93, Tryz.ntmps93
    go_wp2_with fail
    refine (Hp.out _).mono ?_
    rintro e w1 ⟨rfl, hx0⟩
    have hy := Ext.trans (a := w) EX hx0; clear hx; have hx := hy; clear hy; have hnX := BB hx0 (bX); (first | simp [↓heap_drew_at, ↓heap_drewN_at, ↓heap_alloc_at, ↓heap_set_at, ne_two, ne_three, ne_two_left, ne_three_left, ↓hbX.eq, hbX.lt, hbX.ne] at hnX | simp [↓heap_drew_at, ↓heap_drewN_at, ↓heap_alloc_at, ↓heap_set_at, ne_two, ne_three, ne_two_left, ne_three_left] at hnX); (try clear hbX hcX hfX hlX); have hbX := Blk.mk hnX; clear hnX; obtain ⟨hcX, hfX, hlX⟩ := hbX.all; (try clear hx0)
    go_wp2_with fail
    refine wp_region_ext (by kernel_rfl) (by kernel_rfl) ?_
    repeat (first | go_big_quiet_skip | (go_big_quiet_want; first | (go_big_quiet_op; go_big_quiet_on) | (apply quiet_at; intro W hW; have hxW := Ext.trans (a := w) EX hW; have hnX := BB hW (bX); (first | simp [↓heap_drew_at, ↓heap_drewN_at, ↓heap_alloc_at, ↓heap_set_at, ne_two, ne_three, ne_two_left, ne_three_left, ↓hbX.eq, hbX.lt, hbX.ne] at hnX | simp [↓heap_drew_at, ↓heap_drewN_at, ↓heap_alloc_at, ↓heap_set_at, ne_two, ne_three, ne_two_left, ne_three_left] at hnX); (try clear hbX hcX hfX hlX); have hbX := Blk.mk hnX; clear hnX; obtain ⟨hcX, hfX, hlX⟩ := hbX.all; go_simp; (first | exact rfl | (simp only [Oper.quietUpon, true_and]; first | exact rfl | (first | (go_at_call 117; exact quiet_call hW (Hr.out _) (fun _ _ h => h)) | with_reducible exact quiet_call hW (Hn.out _) (fun _ _ h => Ret.bcell h) | with_reducible exact quiet_call hW (Hm.out _) (fun _ _ h => Ret.bcell h))) | (first | (go_at_call 117; exact quiet_call hW (Hr.out _) (fun _ _ h => h)) | with_reducible exact quiet_call hW (Hn.out _) (fun _ _ h => Ret.bcell h) | with_reducible exact quiet_call hW (Hm.out _) (fun _ _ h => Ret.bcell h))); go_big_quiet_on; simp only [Act.put, sA, s0, sS])))
    refine wpQuiet_nil ?_
    intro w1 hx0
    have hy := Ext.trans (a := w) EX hx0; clear hx; have hx := hy; clear hy; have hnX := BB hx0 (bX); (first | simp [↓heap_drew_at, ↓heap_drewN_at, ↓heap_alloc_at, ↓heap_set_at, ne_two, ne_three, ne_two_left, ne_three_left, ↓hbX.eq, hbX.lt, hbX.ne] at hnX | simp [↓heap_drew_at, ↓heap_drewN_at, ↓heap_alloc_at, ↓heap_set_at, ne_two, ne_three, ne_two_left, ne_three_left] at hnX); (try clear hbX hcX hfX hlX); have hbX := Blk.mk hnX; clear hnX; obtain ⟨hcX, hfX, hlX⟩ := hbX.all; (try clear hx0)
    go_wp2
    (go_ret; refine Ret.mk ?_ ?_; (focus (rw [HM.out]; simp [Qm.eqB, *]; done)); (focus (exact EX; done)))
end Go.Proofs.YtfmgnaigcibcaaaGreatDoor
namespace Go.Proofs.YtfmgnaigcibcaaaGreatDoor
open Go.RowKit

/-- What the exchange of two changes of bytes makes of the results. -/
def Pv.xbytes (a b c d : Pv) : Pv × Pv × Bool :=
  if a.off + a.sn.size < b.off then ({ c with off := b.off - ((a.sn.size : Int) - a.so.size) }, d, true)
  else if b.off + b.so.size < a.off then (c, { d with off := a.off + b.sn.size - b.so.size }, true)
  else (c, d, false)
/-- A method of an exchange: it answers r; the exchange's results are c and d. -/
def XRet (bX : Nat) (a b c d : Pv) (r : Bool) (w : World) (e : Ending) (w' : World) : Prop :=
  e = .returned (.bool r) ∧ Blk w' bX 128 (xarr a b c d) ∧ w.grownBy w' (some bX)
theorem Ext.grown {w w' : World} (h : Ext w w') (r : Option Nat) : w.grownBy w' r := ⟨h.os, h.tape, h.output, h.size, fun k hk _ => h.block k hk⟩
theorem grown_set {w w' : World} {b k : Nat} (h : w.grownBy w' (some b)) (v : Value) : w.grownBy (w'.setCell ⟨b, k, none⟩ v) (some b) :=
  ⟨h.os, h.tape, h.output, by simpa using h.size, fun i hi hne => (Below.heap_setCell w' ⟨b, k, none⟩ v i (fun e => hne (by rw [e]))).trans (h.block i hi hne)⟩

set_option maxHeartbeats 8000000 in
set_option maxRecDepth 100000 in
theorem xbytes_any (a b c d : Pv) (bX : Nat) (w : World) (hbX : Blk w bX 128 (xarr a b c d)) (h1 : 0 ≤ a.off) (h2 : a.off ≤ 1152921504606846976) (h3 : 0 ≤ b.off) (h4 : b.off ≤ 1152921504606846976)
    (s1 : a.so.size ≤ 1152921504606846976) (s2 : a.sn.size ≤ 1152921504606846976) (s3 : b.so.size ≤ 1152921504606846976) (s4 : b.sn.size ≤ 1152921504606846976) :
    Calls Tryz.prog 121 #[.pointer (some ⟨bX, 0, none⟩)] w (XRet bX a b (a.xbytes b c d).1 (a.xbytes b c d).2.1 (a.xbytes b c d).2.2 w) := by
  obtain ⟨hcX, hfX, hlX⟩ := hbX.all
  have w1' : IntKind.i64.wrap (a.off + (a.sn.size : Int)) = a.off + a.sn.size := IntWalk.i64_in _ (by omega)
  have w2' : IntKind.i64.wrap ((a.sn.size : Int) - a.so.size) = (a.sn.size : Int) - a.so.size := IntWalk.i64_in _ (by omega)
  have w3' : IntKind.i64.wrap (b.off + (b.so.size : Int)) = b.off + b.so.size := IntWalk.i64_in _ (by omega)
  have w4' : IntKind.i64.wrap (a.off + (b.sn.size : Int)) = a.off + b.sn.size := IntWalk.i64_in _ (by omega)
  have w5' : IntKind.i64.wrap (a.off + (b.sn.size : Int) - b.so.size) = a.off + b.sn.size - b.so.size := IntWalk.i64_in _ (by omega)
  by_cases k1 : a.off + a.sn.size < b.off
  · have hm : a.xbytes b c d = ({ c with off := b.off - ((a.sn.size : Int) - a.so.size) }, d, true) := by rw [Pv.xbytes, if_pos k1]
    rw [hm]
    clear hm
    go_enter Tryz.func121, Tryz.ntmps121
    have hx := Ext.refl w
    go_wp2
    refine wp_region_ext (by kernel_rfl) (by kernel_rfl) ?_
    repeat (first | go_big_quiet_skip | (go_big_quiet_want; first | (go_big_quiet_op; go_big_quiet_on) | (apply quiet_at; intro W hW; have hxW := Ext.trans (a := w) EX hW; have hnX := BB hW (bX); (first | simp [↓heap_drew_at, ↓heap_drewN_at, ↓heap_alloc_at, ↓heap_set_at, ne_two, ne_three, ne_two_left, ne_three_left, ↓hbX.eq, hbX.lt, hbX.ne] at hnX | simp [↓heap_drew_at, ↓heap_drewN_at, ↓heap_alloc_at, ↓heap_set_at, ne_two, ne_three, ne_two_left, ne_three_left] at hnX); (try clear hbX hcX hfX hlX); have hbX := Blk.mk hnX; clear hnX; obtain ⟨hcX, hfX, hlX⟩ := hbX.all; go_simp; (first | exact rfl | (simp only [Oper.quietUpon, true_and]; first | exact rfl | (fail)) | (fail)); go_big_quiet_on; simp only [Act.put, sA, s0, sS])))
    refine wpQuiet_nil ?_
    intro w1 hx0
    have hy := Ext.trans (a := w) EX hx0; clear hx; have hx := hy; clear hy; have hnX := BB hx0 (bX); (first | simp [↓heap_drew_at, ↓heap_drewN_at, ↓heap_alloc_at, ↓heap_set_at, ne_two, ne_three, ne_two_left, ne_three_left, ↓hbX.eq, hbX.lt, hbX.ne] at hnX | simp [↓heap_drew_at, ↓heap_drewN_at, ↓heap_alloc_at, ↓heap_set_at, ne_two, ne_three, ne_two_left, ne_three_left] at hnX); (try clear hbX hcX hfX hlX); have hbX := Blk.mk hnX; clear hnX; obtain ⟨hcX, hfX, hlX⟩ := hbX.all; (try clear hx0)
    go_wp2
    refine wp_region_ext (by kernel_rfl) (by kernel_rfl) ?_
    repeat (first | go_big_quiet_skip | (go_big_quiet_want; first | (go_big_quiet_op; go_big_quiet_on) | (apply quiet_at; intro W hW; have hxW := Ext.trans (a := w) EX hW; have hnX := BB hW (bX); (first | simp [↓heap_drew_at, ↓heap_drewN_at, ↓heap_alloc_at, ↓heap_set_at, ne_two, ne_three, ne_two_left, ne_three_left, ↓hbX.eq, hbX.lt, hbX.ne] at hnX | simp [↓heap_drew_at, ↓heap_drewN_at, ↓heap_alloc_at, ↓heap_set_at, ne_two, ne_three, ne_two_left, ne_three_left] at hnX); (try clear hbX hcX hfX hlX); have hbX := Blk.mk hnX; clear hnX; obtain ⟨hcX, hfX, hlX⟩ := hbX.all; go_simp; (first | exact rfl | (simp only [Oper.quietUpon, true_and]; first | exact rfl | (fail)) | (fail)); go_big_quiet_on; simp only [Act.put, sA, s0, sS])))
    refine wpQuiet_nil ?_
    intro w1 hx0
    have hy := Ext.trans (a := w) EX hx0; clear hx; have hx := hy; clear hy; have hnX := BB hx0 (bX); (first | simp [↓heap_drew_at, ↓heap_drewN_at, ↓heap_alloc_at, ↓heap_set_at, ne_two, ne_three, ne_two_left, ne_three_left, ↓hbX.eq, hbX.lt, hbX.ne] at hnX | simp [↓heap_drew_at, ↓heap_drewN_at, ↓heap_alloc_at, ↓heap_set_at, ne_two, ne_three, ne_two_left, ne_three_left] at hnX); (try clear hbX hcX hfX hlX); have hbX := Blk.mk hnX; clear hnX; obtain ⟨hcX, hfX, hlX⟩ := hbX.all; (try clear hx0)
    go_wp2
    refine bodyPost_ret (v := .bool true) (by simp [results, Tryz.results121, go_sem]) rfl ?_
    exact ⟨rfl, hbX.set_ 31 _, grown_set (hx.grown _) _⟩
  · by_cases k2 : b.off + b.so.size < a.off
    · have hm : a.xbytes b c d = (c, { d with off := a.off + b.sn.size - b.so.size }, true) := by rw [Pv.xbytes, if_neg k1, if_pos k2]
      rw [hm]
      clear hm
      go_enter Tryz.func121, Tryz.ntmps121
      have hx := Ext.refl w
      go_wp2
      refine wp_region_ext (by kernel_rfl) (by kernel_rfl) ?_
      repeat (first | go_big_quiet_skip | (go_big_quiet_want; first | (go_big_quiet_op; go_big_quiet_on) | (apply quiet_at; intro W hW; have hxW := Ext.trans (a := w) EX hW; have hnX := BB hW (bX); (first | simp [↓heap_drew_at, ↓heap_drewN_at, ↓heap_alloc_at, ↓heap_set_at, ne_two, ne_three, ne_two_left, ne_three_left, ↓hbX.eq, hbX.lt, hbX.ne] at hnX | simp [↓heap_drew_at, ↓heap_drewN_at, ↓heap_alloc_at, ↓heap_set_at, ne_two, ne_three, ne_two_left, ne_three_left] at hnX); (try clear hbX hcX hfX hlX); have hbX := Blk.mk hnX; clear hnX; obtain ⟨hcX, hfX, hlX⟩ := hbX.all; go_simp; (first | exact rfl | (simp only [Oper.quietUpon, true_and]; first | exact rfl | (fail)) | (fail)); go_big_quiet_on; simp only [Act.put, sA, s0, sS])))
      refine wpQuiet_nil ?_
      intro w1 hx0
      have hy := Ext.trans (a := w) EX hx0; clear hx; have hx := hy; clear hy; have hnX := BB hx0 (bX); (first | simp [↓heap_drew_at, ↓heap_drewN_at, ↓heap_alloc_at, ↓heap_set_at, ne_two, ne_three, ne_two_left, ne_three_left, ↓hbX.eq, hbX.lt, hbX.ne] at hnX | simp [↓heap_drew_at, ↓heap_drewN_at, ↓heap_alloc_at, ↓heap_set_at, ne_two, ne_three, ne_two_left, ne_three_left] at hnX); (try clear hbX hcX hfX hlX); have hbX := Blk.mk hnX; clear hnX; obtain ⟨hcX, hfX, hlX⟩ := hbX.all; (try clear hx0)
      go_wp2
      refine wp_region_ext (by kernel_rfl) (by kernel_rfl) ?_
      repeat (first | go_big_quiet_skip | (go_big_quiet_want; first | (go_big_quiet_op; go_big_quiet_on) | (apply quiet_at; intro W hW; have hxW := Ext.trans (a := w) EX hW; have hnX := BB hW (bX); (first | simp [↓heap_drew_at, ↓heap_drewN_at, ↓heap_alloc_at, ↓heap_set_at, ne_two, ne_three, ne_two_left, ne_three_left, ↓hbX.eq, hbX.lt, hbX.ne] at hnX | simp [↓heap_drew_at, ↓heap_drewN_at, ↓heap_alloc_at, ↓heap_set_at, ne_two, ne_three, ne_two_left, ne_three_left] at hnX); (try clear hbX hcX hfX hlX); have hbX := Blk.mk hnX; clear hnX; obtain ⟨hcX, hfX, hlX⟩ := hbX.all; go_simp; (first | exact rfl | (simp only [Oper.quietUpon, true_and]; first | exact rfl | (fail)) | (fail)); go_big_quiet_on; simp only [Act.put, sA, s0, sS])))
      refine wpQuiet_nil ?_
      intro w1 hx0
      have hy := Ext.trans (a := w) EX hx0; clear hx; have hx := hy; clear hy; have hnX := BB hx0 (bX); (first | simp [↓heap_drew_at, ↓heap_drewN_at, ↓heap_alloc_at, ↓heap_set_at, ne_two, ne_three, ne_two_left, ne_three_left, ↓hbX.eq, hbX.lt, hbX.ne] at hnX | simp [↓heap_drew_at, ↓heap_drewN_at, ↓heap_alloc_at, ↓heap_set_at, ne_two, ne_three, ne_two_left, ne_three_left] at hnX); (try clear hbX hcX hfX hlX); have hbX := Blk.mk hnX; clear hnX; obtain ⟨hcX, hfX, hlX⟩ := hbX.all; (try clear hx0)
      go_wp2
      refine wp_region_ext (by kernel_rfl) (by kernel_rfl) ?_
      repeat (first | go_big_quiet_skip | (go_big_quiet_want; first | (go_big_quiet_op; go_big_quiet_on) | (apply quiet_at; intro W hW; have hxW := Ext.trans (a := w) EX hW; have hnX := BB hW (bX); (first | simp [↓heap_drew_at, ↓heap_drewN_at, ↓heap_alloc_at, ↓heap_set_at, ne_two, ne_three, ne_two_left, ne_three_left, ↓hbX.eq, hbX.lt, hbX.ne] at hnX | simp [↓heap_drew_at, ↓heap_drewN_at, ↓heap_alloc_at, ↓heap_set_at, ne_two, ne_three, ne_two_left, ne_three_left] at hnX); (try clear hbX hcX hfX hlX); have hbX := Blk.mk hnX; clear hnX; obtain ⟨hcX, hfX, hlX⟩ := hbX.all; go_simp; (first | exact rfl | (simp only [Oper.quietUpon, true_and]; first | exact rfl | (fail)) | (fail)); go_big_quiet_on; simp only [Act.put, sA, s0, sS])))
      refine wpQuiet_nil ?_
      intro w1 hx0
      have hy := Ext.trans (a := w) EX hx0; clear hx; have hx := hy; clear hy; have hnX := BB hx0 (bX); (first | simp [↓heap_drew_at, ↓heap_drewN_at, ↓heap_alloc_at, ↓heap_set_at, ne_two, ne_three, ne_two_left, ne_three_left, ↓hbX.eq, hbX.lt, hbX.ne] at hnX | simp [↓heap_drew_at, ↓heap_drewN_at, ↓heap_alloc_at, ↓heap_set_at, ne_two, ne_three, ne_two_left, ne_three_left] at hnX); (try clear hbX hcX hfX hlX); have hbX := Blk.mk hnX; clear hnX; obtain ⟨hcX, hfX, hlX⟩ := hbX.all; (try clear hx0)
      go_wp2
      refine wp_region_ext_tail 23 (by kernel_rfl) (by kernel_rfl) ?_
      simp only [List.take_succ_cons, List.take_zero, List.drop_succ_cons, List.drop_zero]
      repeat (first | go_big_quiet_skip | (go_big_quiet_want; first | (go_big_quiet_op; go_big_quiet_on) | (apply quiet_at; intro W hW; have hxW := Ext.trans (a := w) EX hW; have hnX := BB hW (bX); (first | simp [↓heap_drew_at, ↓heap_drewN_at, ↓heap_alloc_at, ↓heap_set_at, ne_two, ne_three, ne_two_left, ne_three_left, ↓hbX.eq, hbX.lt, hbX.ne] at hnX | simp [↓heap_drew_at, ↓heap_drewN_at, ↓heap_alloc_at, ↓heap_set_at, ne_two, ne_three, ne_two_left, ne_three_left] at hnX); (try clear hbX hcX hfX hlX); have hbX := Blk.mk hnX; clear hnX; obtain ⟨hcX, hfX, hlX⟩ := hbX.all; go_simp; (first | exact rfl | (simp only [Oper.quietUpon, true_and]; first | exact rfl | (fail)) | (fail)); go_big_quiet_on; simp only [Act.put, sA, s0, sS])))
      refine wpQuiet_nil ?_
      intro w1 hx0
      have hy := Ext.trans (a := w) EX hx0; clear hx; have hx := hy; clear hy; have hnX := BB hx0 (bX); (first | simp [↓heap_drew_at, ↓heap_drewN_at, ↓heap_alloc_at, ↓heap_set_at, ne_two, ne_three, ne_two_left, ne_three_left, ↓hbX.eq, hbX.lt, hbX.ne] at hnX | simp [↓heap_drew_at, ↓heap_drewN_at, ↓heap_alloc_at, ↓heap_set_at, ne_two, ne_three, ne_two_left, ne_three_left] at hnX); (try clear hbX hcX hfX hlX); have hbX := Blk.mk hnX; clear hnX; obtain ⟨hcX, hfX, hlX⟩ := hbX.all; (try clear hx0)
      go_wp2
      refine bodyPost_ret (v := .bool true) (by simp [results, Tryz.results121, go_sem]) rfl ?_
      exact ⟨rfl, hbX.set_ 43 _, grown_set (hx.grown _) _⟩
    · have hm : a.xbytes b c d = (c, d, false) := by rw [Pv.xbytes, if_neg k1, if_neg k2]
      rw [hm]
      clear hm
      go_enter Tryz.func121, Tryz.ntmps121
      have hx := Ext.refl w
      go_wp2
      refine wp_region_ext (by kernel_rfl) (by kernel_rfl) ?_
      repeat (first | go_big_quiet_skip | (go_big_quiet_want; first | (go_big_quiet_op; go_big_quiet_on) | (apply quiet_at; intro W hW; have hxW := Ext.trans (a := w) EX hW; have hnX := BB hW (bX); (first | simp [↓heap_drew_at, ↓heap_drewN_at, ↓heap_alloc_at, ↓heap_set_at, ne_two, ne_three, ne_two_left, ne_three_left, ↓hbX.eq, hbX.lt, hbX.ne] at hnX | simp [↓heap_drew_at, ↓heap_drewN_at, ↓heap_alloc_at, ↓heap_set_at, ne_two, ne_three, ne_two_left, ne_three_left] at hnX); (try clear hbX hcX hfX hlX); have hbX := Blk.mk hnX; clear hnX; obtain ⟨hcX, hfX, hlX⟩ := hbX.all; go_simp; (first | exact rfl | (simp only [Oper.quietUpon, true_and]; first | exact rfl | (fail)) | (fail)); go_big_quiet_on; simp only [Act.put, sA, s0, sS])))
      refine wpQuiet_nil ?_
      intro w1 hx0
      have hy := Ext.trans (a := w) EX hx0; clear hx; have hx := hy; clear hy; have hnX := BB hx0 (bX); (first | simp [↓heap_drew_at, ↓heap_drewN_at, ↓heap_alloc_at, ↓heap_set_at, ne_two, ne_three, ne_two_left, ne_three_left, ↓hbX.eq, hbX.lt, hbX.ne] at hnX | simp [↓heap_drew_at, ↓heap_drewN_at, ↓heap_alloc_at, ↓heap_set_at, ne_two, ne_three, ne_two_left, ne_three_left] at hnX); (try clear hbX hcX hfX hlX); have hbX := Blk.mk hnX; clear hnX; obtain ⟨hcX, hfX, hlX⟩ := hbX.all; (try clear hx0)
      go_wp2
      refine wp_region_ext (by kernel_rfl) (by kernel_rfl) ?_
      repeat (first | go_big_quiet_skip | (go_big_quiet_want; first | (go_big_quiet_op; go_big_quiet_on) | (apply quiet_at; intro W hW; have hxW := Ext.trans (a := w) EX hW; have hnX := BB hW (bX); (first | simp [↓heap_drew_at, ↓heap_drewN_at, ↓heap_alloc_at, ↓heap_set_at, ne_two, ne_three, ne_two_left, ne_three_left, ↓hbX.eq, hbX.lt, hbX.ne] at hnX | simp [↓heap_drew_at, ↓heap_drewN_at, ↓heap_alloc_at, ↓heap_set_at, ne_two, ne_three, ne_two_left, ne_three_left] at hnX); (try clear hbX hcX hfX hlX); have hbX := Blk.mk hnX; clear hnX; obtain ⟨hcX, hfX, hlX⟩ := hbX.all; go_simp; (first | exact rfl | (simp only [Oper.quietUpon, true_and]; first | exact rfl | (fail)) | (fail)); go_big_quiet_on; simp only [Act.put, sA, s0, sS])))
      refine wpQuiet_nil ?_
      intro w1 hx0
      have hy := Ext.trans (a := w) EX hx0; clear hx; have hx := hy; clear hy; have hnX := BB hx0 (bX); (first | simp [↓heap_drew_at, ↓heap_drewN_at, ↓heap_alloc_at, ↓heap_set_at, ne_two, ne_three, ne_two_left, ne_three_left, ↓hbX.eq, hbX.lt, hbX.ne] at hnX | simp [↓heap_drew_at, ↓heap_drewN_at, ↓heap_alloc_at, ↓heap_set_at, ne_two, ne_three, ne_two_left, ne_three_left] at hnX); (try clear hbX hcX hfX hlX); have hbX := Blk.mk hnX; clear hnX; obtain ⟨hcX, hfX, hlX⟩ := hbX.all; (try clear hx0)
      go_wp2
      refine wp_region_ext (by kernel_rfl) (by kernel_rfl) ?_
      repeat (first | go_big_quiet_skip | (go_big_quiet_want; first | (go_big_quiet_op; go_big_quiet_on) | (apply quiet_at; intro W hW; have hxW := Ext.trans (a := w) EX hW; have hnX := BB hW (bX); (first | simp [↓heap_drew_at, ↓heap_drewN_at, ↓heap_alloc_at, ↓heap_set_at, ne_two, ne_three, ne_two_left, ne_three_left, ↓hbX.eq, hbX.lt, hbX.ne] at hnX | simp [↓heap_drew_at, ↓heap_drewN_at, ↓heap_alloc_at, ↓heap_set_at, ne_two, ne_three, ne_two_left, ne_three_left] at hnX); (try clear hbX hcX hfX hlX); have hbX := Blk.mk hnX; clear hnX; obtain ⟨hcX, hfX, hlX⟩ := hbX.all; go_simp; (first | exact rfl | (simp only [Oper.quietUpon, true_and]; first | exact rfl | (fail)) | (fail)); go_big_quiet_on; simp only [Act.put, sA, s0, sS])))
      refine wpQuiet_nil ?_
      intro w1 hx0
      have hy := Ext.trans (a := w) EX hx0; clear hx; have hx := hy; clear hy; have hnX := BB hx0 (bX); (first | simp [↓heap_drew_at, ↓heap_drewN_at, ↓heap_alloc_at, ↓heap_set_at, ne_two, ne_three, ne_two_left, ne_three_left, ↓hbX.eq, hbX.lt, hbX.ne] at hnX | simp [↓heap_drew_at, ↓heap_drewN_at, ↓heap_alloc_at, ↓heap_set_at, ne_two, ne_three, ne_two_left, ne_three_left] at hnX); (try clear hbX hcX hfX hlX); have hbX := Blk.mk hnX; clear hnX; obtain ⟨hcX, hfX, hlX⟩ := hbX.all; (try clear hx0)
      go_wp2
      refine bodyPost_ret (v := .bool false) (by simp [results, Tryz.results121, go_sem]) rfl ?_
      exact ⟨rfl, hbX, hx.grown _⟩
end Go.Proofs.YtfmgnaigcibcaaaGreatDoor
namespace Go.Proofs.YtfmgnaigcibcaaaGreatDoor
open Go.RowKit
attribute [local go_sem ↓] Go.wp_at_zero Go.wp_at_succ

theorem grown_trans {u v w : World} {b : Option Nat} (h : u.grownBy v b) (k : v.grownBy w b) : u.grownBy w b :=
  ⟨k.os.trans h.os, k.tape.trans h.tape, k.output.trans h.output, Nat.le_trans h.size k.size, fun i hi hne => (k.block i (Nat.lt_of_lt_of_le hi h.size) hne).trans (h.block i hi hne)⟩
theorem through_sizes (p q : Pv) : (Pv.through p q).1.path.size ≤ q.to_.size + 2 * p.path.size ∧ (Pv.through p q).1.to_.size ≤ q.to_.size + 2 * p.to_.size := by
  unfold Pv.through
  have h1 := Qm.newAfter_size q.kind q.path q.to_ p.path
  have h2 := Qm.after_size q.kind q.path q.to_ p.path
  have h3 := Qm.newAfter_size q.kind q.path q.to_ p.to_
  constructor
  · dsimp only
    split <;> omega
  · dsimp only
    split
    · omega
    · dsimp only; omega
theorem xset_b2 {w : World} {bX : Nat} {a b c d : Pv} (y : Pv) (h : Blk w bX 128 (xarr a b c d)) : Blk ((((((((((((w.setCell ⟨bX, 24, none⟩ (.int .i64 y.kind)).setCell ⟨bX, 25, none⟩ (.string y.path)).setCell ⟨bX, 26, none⟩ (.string y.to_)).setCell ⟨bX, 27, none⟩ (.int .i64 y.ty)).setCell ⟨bX, 28, none⟩ (.int .i64 y.at_)).setCell ⟨bX, 29, none⟩ (.slice y.A1 y.n1 y.c1)).setCell ⟨bX, 30, none⟩ (.slice y.A2 y.n2 y.c2)).setCell ⟨bX, 31, none⟩ (.int .i64 y.off)).setCell ⟨bX, 32, none⟩ (.string y.so)).setCell ⟨bX, 33, none⟩ (.string y.sn)).setCell ⟨bX, 34, none⟩ (.int .i64 y.om)).setCell ⟨bX, 35, none⟩ (.int .i64 y.nm)) bX 128 (xarr a b y d) := by
  have h1 := ((((((((((((h.set_ 24 (.int .i64 y.kind)).set_ 25 (.string y.path)).set_ 26 (.string y.to_)).set_ 27 (.int .i64 y.ty)).set_ 28 (.int .i64 y.at_)).set_ 29 (.slice y.A1 y.n1 y.c1)).set_ 30 (.slice y.A2 y.n2 y.c2)).set_ 31 (.int .i64 y.off)).set_ 32 (.string y.so)).set_ 33 (.string y.sn)).set_ 34 (.int .i64 y.om)).set_ 35 (.int .i64 y.nm))
  simp only [List.setIfInBounds_toArray, List.set_cons_succ, List.set_cons_zero] at h1
  exact h1
theorem xset_a2 {w : World} {bX : Nat} {a b c d : Pv} (y : Pv) (h : Blk w bX 128 (xarr a b c d)) : Blk ((((((((((((w.setCell ⟨bX, 36, none⟩ (.int .i64 y.kind)).setCell ⟨bX, 37, none⟩ (.string y.path)).setCell ⟨bX, 38, none⟩ (.string y.to_)).setCell ⟨bX, 39, none⟩ (.int .i64 y.ty)).setCell ⟨bX, 40, none⟩ (.int .i64 y.at_)).setCell ⟨bX, 41, none⟩ (.slice y.A1 y.n1 y.c1)).setCell ⟨bX, 42, none⟩ (.slice y.A2 y.n2 y.c2)).setCell ⟨bX, 43, none⟩ (.int .i64 y.off)).setCell ⟨bX, 44, none⟩ (.string y.so)).setCell ⟨bX, 45, none⟩ (.string y.sn)).setCell ⟨bX, 46, none⟩ (.int .i64 y.om)).setCell ⟨bX, 47, none⟩ (.int .i64 y.nm)) bX 128 (xarr a b c y) := by
  have h1 := ((((((((((((h.set_ 36 (.int .i64 y.kind)).set_ 37 (.string y.path)).set_ 38 (.string y.to_)).set_ 39 (.int .i64 y.ty)).set_ 40 (.int .i64 y.at_)).set_ 41 (.slice y.A1 y.n1 y.c1)).set_ 42 (.slice y.A2 y.n2 y.c2)).set_ 43 (.int .i64 y.off)).set_ 44 (.string y.so)).set_ 45 (.string y.sn)).set_ 46 (.int .i64 y.om)).set_ 47 (.int .i64 y.nm))
  simp only [List.setIfInBounds_toArray, List.set_cons_succ, List.set_cons_zero] at h1
  exact h1
theorem xset_grown {u w : World} {bX : Nat} (k : Nat) (v0 v1 v2 v3 v4 v5 v6 v7 v8 v9 v10 v11 : Value) {k1 k2 k3 k4 k5 k6 k7 k8 k9 k10 k11 : Nat} (h : u.grownBy w (some bX)) : u.grownBy ((((((((((((w.setCell ⟨bX, k, none⟩ v0).setCell ⟨bX, k1, none⟩ v1).setCell ⟨bX, k2, none⟩ v2).setCell ⟨bX, k3, none⟩ v3).setCell ⟨bX, k4, none⟩ v4).setCell ⟨bX, k5, none⟩ v5).setCell ⟨bX, k6, none⟩ v6).setCell ⟨bX, k7, none⟩ v7).setCell ⟨bX, k8, none⟩ v8).setCell ⟨bX, k9, none⟩ v9).setCell ⟨bX, k10, none⟩ v10).setCell ⟨bX, k11, none⟩ v11) (some bX) := (grown_set (grown_set (grown_set (grown_set (grown_set (grown_set (grown_set (grown_set (grown_set (grown_set (grown_set (grown_set h _) _) _) _) _) _) _) _) _) _) _) _)
/-- The paths of the results: b behind the inverse of a; a behind that. -/
def Pv.xb (b : Pv) (qi : Qp) : Pv × Bool := Pv.through b (qi.pv none 0 none 0)
def Pv.xpaths (a b d : Pv) (qi : Qp) : Pv × Pv × Bool := ((b.xb qi).1, if (b.xb qi).2 then (Pv.through a (b.xb qi).1).1 else d, (b.xb qi).2 && (Pv.through a (b.xb qi).1).2)

set_option maxHeartbeats 16000000 in
set_option maxRecDepth 100000 in
theorem xpaths_any (a b c d : Pv) (qa : Qp) (bX : Nat) (w : World) (hg : Glob w) {F : Nat → Prop} (ha : Is w F a qa) (hc : qa.check = 0) (hbX : Blk w bX 128 (xarr a b c d))
    (a1 : qa.path.size ≤ 1048576) (a2 : qa.to_.size ≤ 1048576) (a3 : b.path.size ≤ 1048576) (a4 : b.to_.size ≤ 1048576) (i1 : qa.inv.path.size ≤ 1048576) (i2 : qa.inv.to_.size ≤ 1048576) (v1 : a.path.size ≤ 1048576) (v2 : a.to_.size ≤ 1048576) :
    Calls Tryz.prog 92 #[.pointer (some ⟨bX, 0, none⟩)] w (XRet bX a b (Pv.xpaths a b d qa.inv).1 (Pv.xpaths a b d qa.inv).2.1 (Pv.xpaths a b d qa.inv).2.2 w) := by
  obtain ⟨hcX, hfX, hlX⟩ := hbX.all
  have sm := Qp.small hc
  have m1 : qa.old.length ≤ 1152921504606846976 := by omega
  have m2 : qa.new.length ≤ 1152921504606846976 := by omega
  have HA := Lib.hid ha
  have HG := Lib.hid hg
  have HC := Lib.hid hc
  clear ha hg hc sm
  have z1 := through_sizes b (qa.inv.pv none 0 none 0)
  have HM : Hid (Pv.xpaths a b d qa.inv = ((b.xb qa.inv).1, if (b.xb qa.inv).2 then (Pv.through a (b.xb qa.inv).1).1 else d, (b.xb qa.inv).2 && (Pv.through a (b.xb qa.inv).1).2)) := Lib.hid rfl
  generalize Pv.xpaths a b d qa.inv = R at HM ⊢
  have HB : Hid (∀ A1 c1 A2 c2, Pv.through b (qa.inv.pv A1 c1 A2 c2) = b.xb qa.inv) := Lib.hid (fun _ _ _ _ => rfl)
  have z2 : (b.xb qa.inv).1.path.size ≤ 4194304 ∧ (b.xb qa.inv).1.to_.size ≤ 4194304 := by
    have : b.xb qa.inv = Pv.through b (qa.inv.pv none 0 none 0) := rfl
    rw [this]
    dsimp only at z1
    omega
  clear z1
  generalize b.xb qa.inv = y at HM HB z2
  obtain ⟨y1, y2⟩ := y
  dsimp only at HM z2
  go_enter Tryz.func92, Tryz.ntmps92
  have hx := Ext.refl w
  go_upto_region 2 with fail
  go_cut [3] (fun u3 wx => Hid (w.grownBy wx (some bX)) ∧ Blk wx bX 128 (xarr a b y1 d) ∧ u3 = .bool y2)
  case first =>
    go_region_with (first
      | (go_at_call 114; refine (inverse_any a qa _ (HG.out.ext EX) (HA.out.ext EX) m1 m2 (by omega) (by omega) HC.out).mono ?_; rintro e w1 ⟨p', rfl, hs1, hx0⟩; obtain ⟨A1, c1, A2, c2, rfl, _⟩ := hs1; have hy := Ext.trans (a := w) EX hx0; clear hx; have hx := hy; clear hy; have hnX := BB hx0 (bX); (first | simp [↓heap_drew_at, ↓heap_drewN_at, ↓heap_alloc_at, ↓heap_set_at, ne_two, ne_three, ne_two_left, ne_three_left, ↓hbX.eq, hbX.lt, hbX.ne] at hnX | simp [↓heap_drew_at, ↓heap_drewN_at, ↓heap_alloc_at, ↓heap_set_at, ne_two, ne_three, ne_two_left, ne_three_left] at hnX); (try clear hbX hcX hfX hlX); have hbX := Blk.mk hnX; clear hnX; obtain ⟨hcX, hfX, hlX⟩ := hbX.all; (try clear hx0))
      | (go_at_call 113; refine (through_any b (qa.inv.pv A1 c1 A2 c2) _ (by first | omega | (dsimp only; omega)) (by first | omega | (dsimp only; omega)) (by first | omega | (dsimp only; omega)) (by first | omega | (dsimp only; omega))).mono ?_; rw [HB.out]; rintro e w1 ⟨rfl, hx0⟩; have hy := Ext.trans (a := w) EX hx0; clear hx; have hx := hy; clear hy; have hnX := BB hx0 (bX); (first | simp [↓heap_drew_at, ↓heap_drewN_at, ↓heap_alloc_at, ↓heap_set_at, ne_two, ne_three, ne_two_left, ne_three_left, ↓hbX.eq, hbX.lt, hbX.ne] at hnX | simp [↓heap_drew_at, ↓heap_drewN_at, ↓heap_alloc_at, ↓heap_set_at, ne_two, ne_three, ne_two_left, ne_three_left] at hnX); (try clear hbX hcX hfX hlX); have hbX := Blk.mk hnX; clear hnX; obtain ⟨hcX, hfX, hlX⟩ := hbX.all; (try clear hx0)))
    all_goals (go_wp2_with fail; go_meet)
    all_goals exact ⟨Lib.hid (xset_grown _ _ _ _ _ _ _ _ _ _ _ _ _ (hx.grown _)), xset_b2 y1 hbX, rfl⟩
  case rest =>
    obtain ⟨HG1, hbX, rfl⟩ := hcut
    have hx := Ext.refl wc
    obtain ⟨hcX, hfX, hlX⟩ := hbX.all
    clear HA HG HC HB
    cases y2
    · go_wp2_with fail
      refine bodyPost_ret (v := .bool false) (by simp [results, Tryz.results92, go_sem]) rfl ?_
      rw [HM.out]
      exact ⟨rfl, hbX, HG1.out⟩
    · have z3 := z2.1
      have z4 := z2.2
      have hm := HM.out
      rw [if_pos rfl, Bool.true_and] at hm
      have HT : Hid (∀ W, Calls Tryz.prog 113 #[a.v, y1.v] W (Ret (.tuple #[(Pv.through a y1).1.v, .bool (Pv.through a y1).2]) W)) := Lib.hid (fun W => through_any a y1 W (by omega) (by omega) (by omega) (by omega))
      generalize Pv.through a y1 = x at hm HT
      obtain ⟨x1, x2⟩ := x
      have HN := Lib.hid hm
      clear hm HM z2
      obtain ⟨W1, hW1⟩ : ∃ W1 : World, W1 = wc := ⟨_, rfl⟩
      subst hW1
      go_upto_region 5 with fail
      go_cut [3] (fun u3 wx => Hid (W1.grownBy wx (some bX)) ∧ Blk wx bX 128 (xarr a b y1 x1) ∧ u3 = .bool x2)
      case first =>
        go_region_with ((go_at_call 113; refine (HT.out _).mono ?_; rintro e w1 ⟨rfl, hx0⟩; obtain hy := Ext.trans (a := W1) EX hx0; clear hx; have hx := hy; clear hy; have hnX := BB hx0 (bX); (first | simp [↓heap_drew_at, ↓heap_drewN_at, ↓heap_alloc_at, ↓heap_set_at, ne_two, ne_three, ne_two_left, ne_three_left, ↓hbX.eq, hbX.lt, hbX.ne] at hnX | simp [↓heap_drew_at, ↓heap_drewN_at, ↓heap_alloc_at, ↓heap_set_at, ne_two, ne_three, ne_two_left, ne_three_left] at hnX); (try clear hbX hcX hfX hlX); have hbX := Blk.mk hnX; clear hnX; obtain ⟨hcX, hfX, hlX⟩ := hbX.all))
        all_goals (go_wp2_with fail; go_meet)
        all_goals exact ⟨Lib.hid (xset_grown _ _ _ _ _ _ _ _ _ _ _ _ _ (hx.grown _)), xset_a2 x1 hbX, rfl⟩
      case rest =>
        obtain ⟨HG2, hbX, rfl⟩ := hcut
        go_wp2_with fail
        refine bodyPost_ret (v := .bool x2) (by simp [results, Tryz.results92, go_sem]) rfl ?_
        rw [HN.out]
        exact ⟨rfl, hbX, grown_trans HG1.out HG2.out⟩
end Go.Proofs.YtfmgnaigcibcaaaGreatDoor
namespace Go.Proofs.YtfmgnaigcibcaaaGreatDoor
open Go.RowKit
attribute [local go_sem ↓] Go.wp_at_zero Go.wp_at_succ

def Pv.withHunk (p : Pv) (h : Hv) : Pv := { p with at_ := h.at_, A1 := h.A1, n1 := h.n1, c1 := h.c1, A2 := h.A2, n2 := h.n2, c2 := h.c2 }
/-- exchange.contents: the results, and whether the contents can be exchanged. -/
def Pv.xcontents (a b c d : Pv) : Pv × Pv × Bool :=
  if Qm.adds a.kind = true ∨ Qm.adds b.kind = true ∨ Qm.eqB a.path c.path = false then (c, d, true)
  else if b.kind = 2 ∨ (a.kind = 8 ∧ b.kind = 8) then (c, d, false)
  else if a.kind = 6 ∧ b.kind = 6 then (c.withHunk (a.hunk.commute b.hunk).1, d.withHunk (a.hunk.commute b.hunk).2.1, (a.hunk.commute b.hunk).2.2)
  else if a.kind = 7 ∧ b.kind = 7 then a.xbytes b c d
  else if (a.kind = 6 ∨ a.kind = 7) ∧ (b.kind = 6 ∨ b.kind = 7) then (c, d, false)
  else (c, d, true)

theorem xset_hunks {w : World} {bX : Nat} {a b c d : Pv} (h1 h2 : Hv) (h : Blk w bX 128 (xarr a b c d)) : Blk ((((((w.setCell ⟨bX, 28, none⟩ (.int .i64 h1.at_)).setCell ⟨bX, 29, none⟩ (.slice h1.A1 h1.n1 h1.c1)).setCell ⟨bX, 30, none⟩ (.slice h1.A2 h1.n2 h1.c2)).setCell ⟨bX, 40, none⟩ (.int .i64 h2.at_)).setCell ⟨bX, 41, none⟩ (.slice h2.A1 h2.n1 h2.c1)).setCell ⟨bX, 42, none⟩ (.slice h2.A2 h2.n2 h2.c2)) bX 128 (xarr a b (c.withHunk h1) (d.withHunk h2)) := by
  have h1 := ((((((h.set_ 28 (.int .i64 h1.at_)).set_ 29 (.slice h1.A1 h1.n1 h1.c1)).set_ 30 (.slice h1.A2 h1.n2 h1.c2)).set_ 40 (.int .i64 h2.at_)).set_ 41 (.slice h2.A1 h2.n1 h2.c1)).set_ 42 (.slice h2.A2 h2.n2 h2.c2))
  simp only [List.setIfInBounds_toArray, List.set_cons_succ, List.set_cons_zero] at h1
  exact h1
set_option maxHeartbeats 8000000 in
set_option maxRecDepth 100000 in
theorem xcontents_free (a b c d : Pv) (bX : Nat) (w : World) (hbX : Blk w bX 128 (xarr a b c d)) (hf : Qm.adds a.kind = true ∨ Qm.adds b.kind = true ∨ Qm.eqB a.path c.path = false) :
    Calls Tryz.prog 96 #[.pointer (some ⟨bX, 0, none⟩)] w (XRet bX a b c d true w) := by
  obtain ⟨hcX, hfX, hlX⟩ := hbX.all
  have hr := fun W => adds_any a W
  have hn := fun W => adds_any b W
  have hx := Ext.refl w
  have hf' : Qm.adds a.kind = true ∨ (Qm.adds a.kind = false ∧ Qm.adds b.kind = true) ∨ (Qm.adds a.kind = false ∧ Qm.adds b.kind = false ∧ (a.path.toList == c.path.toList) = false) := by
    cases h1 : Qm.adds a.kind <;> cases h2 : Qm.adds b.kind <;> simp_all [Qm.eqB]
  clear hf
  generalize Qm.adds a.kind = k1 at hr hf'
  generalize Qm.adds b.kind = k2 at hn hf'
  have Hr := Lib.hid hr
  have Hn := Lib.hid hn
  clear hr hn
  rcases hf' with rfl | ⟨rfl, rfl⟩ | ⟨rfl, rfl, he⟩
  all_goals
    go_enter Tryz.func96, Tryz.ntmps96
    go_wp2_with fail
    refine wp_region_ext (by kernel_rfl) (by kernel_rfl) ?_
    repeat (first | go_big_quiet_skip | (go_big_quiet_want; first | (go_big_quiet_op; go_big_quiet_on) | (apply quiet_at; intro W hW; have hxW := Ext.trans (a := w) EX hW; have hnX := BB hW (bX); (first | simp [↓heap_drew_at, ↓heap_drewN_at, ↓heap_alloc_at, ↓heap_set_at, ne_two, ne_three, ne_two_left, ne_three_left, ↓hbX.eq, hbX.lt, hbX.ne] at hnX | simp [↓heap_drew_at, ↓heap_drewN_at, ↓heap_alloc_at, ↓heap_set_at, ne_two, ne_three, ne_two_left, ne_three_left] at hnX); (try clear hbX hcX hfX hlX); have hbX := Blk.mk hnX; clear hnX; obtain ⟨hcX, hfX, hlX⟩ := hbX.all; go_simp; (first | exact rfl | (simp only [Oper.quietUpon, true_and]; first | exact rfl | (first | with_reducible exact quiet_call hW (Hr.out _) (fun _ _ h => Ret.bcell h) | with_reducible exact quiet_call hW (Hn.out _) (fun _ _ h => Ret.bcell h))) | (first | with_reducible exact quiet_call hW (Hr.out _) (fun _ _ h => Ret.bcell h) | with_reducible exact quiet_call hW (Hn.out _) (fun _ _ h => Ret.bcell h))); go_big_quiet_on; simp only [Act.put, sA, s0, sS])))
    refine wpQuiet_nil ?_
    intro w1 hx0
    have hy := Ext.trans (a := w) EX hx0; clear hx; have hx := hy; clear hy; have hnX := BB hx0 (bX); (first | simp [↓heap_drew_at, ↓heap_drewN_at, ↓heap_alloc_at, ↓heap_set_at, ne_two, ne_three, ne_two_left, ne_three_left, ↓hbX.eq, hbX.lt, hbX.ne] at hnX | simp [↓heap_drew_at, ↓heap_drewN_at, ↓heap_alloc_at, ↓heap_set_at, ne_two, ne_three, ne_two_left, ne_three_left] at hnX); (try clear hbX hcX hfX hlX); have hbX := Blk.mk hnX; clear hnX; obtain ⟨hcX, hfX, hlX⟩ := hbX.all; (try clear hx0)
    go_wp2
    refine bodyPost_ret (v := .bool true) (by simp [results, Tryz.results96, go_sem]) rfl ?_
    exact ⟨rfl, hbX, hx.grown _⟩

/-- The ways through the switch. -/
theorem switch_ways {α : Type} (ak bk : Int) (F H X T r : α)
    (hr : r = if bk = 2 ∨ (ak = 8 ∧ bk = 8) then F else if ak = 6 ∧ bk = 6 then H else if ak = 7 ∧ bk = 7 then X else if (ak = 6 ∨ ak = 7) ∧ (bk = 6 ∨ bk = 7) then F else T) :
    ((bk == 2) = true ∧ r = F) ∨ ((bk == 2) = false ∧ (ak == 8) = true ∧ (bk == 8) = true ∧ r = F) ∨
    ((bk == 2) = false ∧ (ak == 8) = false ∧ (ak == 6) = true ∧ (bk == 6) = true ∧ r = H) ∨
    ((bk == 2) = false ∧ (ak == 8) = false ∧ (ak == 6) = false ∧ (ak == 7) = true ∧ (bk == 7) = true ∧ r = X) ∨
    ((bk == 2) = false ∧ (ak == 8) = false ∧ (ak == 6) = true ∧ (ak == 7) = false ∧ (bk == 6) = false ∧ (bk == 7) = true ∧ r = F) ∨
    ((bk == 2) = false ∧ (ak == 8) = false ∧ (ak == 6) = false ∧ (ak == 7) = true ∧ (bk == 6) = true ∧ (bk == 7) = false ∧ r = F) ∨
    ((bk == 2) = false ∧ (ak == 8) = true ∧ (bk == 8) = false ∧ (ak == 6) = false ∧ (ak == 7) = false ∧ r = T) ∨
    ((bk == 2) = false ∧ (ak == 8) = false ∧ (ak == 6) = false ∧ (ak == 7) = false ∧ r = T) ∨
    ((bk == 2) = false ∧ (ak == 8) = false ∧ (ak == 6) = true ∧ (ak == 7) = false ∧ (bk == 6) = false ∧ (bk == 7) = false ∧ r = T) ∨
    ((bk == 2) = false ∧ (ak == 8) = false ∧ (ak == 6) = false ∧ (ak == 7) = true ∧ (bk == 6) = false ∧ (bk == 7) = false ∧ r = T) := by
  by_cases b2 : bk = 2
  · simp [hr, b2]
  by_cases a8 : ak = 8
  · by_cases b8 : bk = 8 <;> simp [hr, b2, a8, b8]
  by_cases a6 : ak = 6
  · by_cases b6 : bk = 6
    · simp [hr, b2, a6, b6]
    · by_cases b7 : bk = 7 <;> simp [hr, b2, a6, b6, b7]
  by_cases a7 : ak = 7
  · by_cases b7 : bk = 7
    · simp [hr, b2, a7, b7]
    · by_cases b6 : bk = 6 <;> simp [hr, b2, a7, b6, b7]
  simp [hr, b2, a8, a6, a7]

set_option maxHeartbeats 8000000 in
set_option maxRecDepth 100000 in
theorem xcontents_met (a b c d : Pv) (bX : Nat) (w : World) (hbX : Blk w bX 128 (xarr a b c d)) (f1 : Qm.adds a.kind = false) (f2 : Qm.adds b.kind = false) (he : (a.path.toList == c.path.toList) = true)
    (o1 : 0 ≤ a.off) (o2 : a.off ≤ 65536) (o3 : 0 ≤ b.off) (o4 : b.off ≤ 65536) (s1 : a.so.size ≤ 65536) (s2 : a.sn.size ≤ 65536) (s3 : b.so.size ≤ 65536) (s4 : b.sn.size ≤ 65536) (n1 : a.hunk.fair) (n2 : b.hunk.fair) :
    Calls Tryz.prog 96 #[.pointer (some ⟨bX, 0, none⟩)] w (XRet bX a b (a.xcontents b c d).1 (a.xcontents b c d).2.1 (a.xcontents b c d).2.2 w) := by
  obtain ⟨hcX, hfX, hlX⟩ := hbX.all
  have hr := fun W => adds_any a W
  have hn := fun W => adds_any b W
  have hx := Ext.refl w
  rw [f1] at hr
  rw [f2] at hn
  have Hr := Lib.hid hr
  have Hn := Lib.hid hn
  have HM : Hid (a.xcontents b c d = _) := Lib.hid (by unfold Pv.xcontents; rw [if_neg (by rw [f1, f2, Qm.eqB, he]; simp)])
  generalize a.xcontents b c d = R at HM ⊢
  clear hr hn f1 f2
  go_enter Tryz.func96, Tryz.ntmps96
  go_wp2_with fail
  refine wp_region_ext (by kernel_rfl) (by kernel_rfl) ?_
  repeat (first | go_big_quiet_skip | (go_big_quiet_want; first | (go_big_quiet_op; go_big_quiet_on) | (apply quiet_at; intro W hW; have hxW := Ext.trans (a := w) EX hW; have hnX := BB hW (bX); (first | simp [↓heap_drew_at, ↓heap_drewN_at, ↓heap_alloc_at, ↓heap_set_at, ne_two, ne_three, ne_two_left, ne_three_left, ↓hbX.eq, hbX.lt, hbX.ne] at hnX | simp [↓heap_drew_at, ↓heap_drewN_at, ↓heap_alloc_at, ↓heap_set_at, ne_two, ne_three, ne_two_left, ne_three_left] at hnX); (try clear hbX hcX hfX hlX); have hbX := Blk.mk hnX; clear hnX; obtain ⟨hcX, hfX, hlX⟩ := hbX.all; go_simp; (first | exact rfl | (simp only [Oper.quietUpon, true_and]; first | exact rfl | (first | with_reducible exact quiet_call hW (Hr.out _) (fun _ _ h => Ret.bcell h) | with_reducible exact quiet_call hW (Hn.out _) (fun _ _ h => Ret.bcell h))) | (first | with_reducible exact quiet_call hW (Hr.out _) (fun _ _ h => Ret.bcell h) | with_reducible exact quiet_call hW (Hn.out _) (fun _ _ h => Ret.bcell h))); go_big_quiet_on; simp only [Act.put, sA, s0, sS])))
  refine wpQuiet_nil ?_
  intro w1 hx0
  have hy := Ext.trans (a := w) EX hx0; clear hx; have hx := hy; clear hy; have hnX := BB hx0 (bX); (first | simp [↓heap_drew_at, ↓heap_drewN_at, ↓heap_alloc_at, ↓heap_set_at, ne_two, ne_three, ne_two_left, ne_three_left, ↓hbX.eq, hbX.lt, hbX.ne] at hnX | simp [↓heap_drew_at, ↓heap_drewN_at, ↓heap_alloc_at, ↓heap_set_at, ne_two, ne_three, ne_two_left, ne_three_left] at hnX); (try clear hbX hcX hfX hlX); have hbX := Blk.mk hnX; clear hnX; obtain ⟨hcX, hfX, hlX⟩ := hbX.all; (try clear hx0)
  clear he
  go_wp2_with fail
  obtain ⟨Wc, rfl⟩ : ∃ Wc : World, Wc = w1 := ⟨_, rfl⟩
  refine wp_region_ext (by kernel_rfl) (by kernel_rfl) ?_
  repeat (first | go_big_quiet_skip | (go_big_quiet_want; first | (go_big_quiet_op; go_big_quiet_on) | (apply quiet_at; intro W hW; have hxW := Ext.trans (a := w) EX hW; have hnX := BB hW (bX); (first | simp [↓heap_drew_at, ↓heap_drewN_at, ↓heap_alloc_at, ↓heap_set_at, ne_two, ne_three, ne_two_left, ne_three_left, ↓hbX.eq, hbX.lt, hbX.ne] at hnX | simp [↓heap_drew_at, ↓heap_drewN_at, ↓heap_alloc_at, ↓heap_set_at, ne_two, ne_three, ne_two_left, ne_three_left] at hnX); (try clear hbX hcX hfX hlX); have hbX := Blk.mk hnX; clear hnX; obtain ⟨hcX, hfX, hlX⟩ := hbX.all; go_simp; (first | exact rfl | (simp only [Oper.quietUpon, true_and]; first | exact rfl | (fail)) | (fail)); go_big_quiet_on; simp only [Act.put, sA, s0, sS])))
  refine wpQuiet_nil ?_
  intro w1 hx0
  have hbC : Blk w1 Wc.heap.size 3 #[.int .i64 6, .int .i64 7] := Blk.ext hx0 (Blk.new' rfl)
  have hy := Ext.trans (a := w) EX hx0; clear hx; have hx := hy; clear hy; have hnX := BB hx0 (bX); (first | simp [↓heap_drew_at, ↓heap_drewN_at, ↓heap_alloc_at, ↓heap_set_at, ne_two, ne_three, ne_two_left, ne_three_left, ↓hbX.eq, hbX.lt, hbX.ne] at hnX | simp [↓heap_drew_at, ↓heap_drewN_at, ↓heap_alloc_at, ↓heap_set_at, ne_two, ne_three, ne_two_left, ne_three_left] at hnX); (try clear hbX hcX hfX hlX); have hbX := Blk.mk hnX; clear hnX; obtain ⟨hcX, hfX, hlX⟩ := hbX.all; (try clear hx0)
  have hK : ∀ (x : Int) (W : World), Ext w1 W → Calls Tryz.prog 122 #[.slice (some ⟨Wc.heap.size, 0, none⟩) 2 2, .int .i64 x] W (fun e w' => e = .returned (.bool (x == 6 || x == 7)) ∧ W = w') := by
    intro x W hW
    have hb := hbC.ext hW
    refine (Tryz.slices_Contains_int Wc.heap.size 0 2 2 [6, 7] x W (by simp) (by omega) (fun j hj => ?_)).mono ?_
    · rw [hb.cell]
      simp only [List.length_cons, List.length_nil] at hj
      match j, hj with
      | 0, _ => rfl
      | 1, _ => rfl
    · rintro e w' ⟨rfl, rfl⟩
      refine ⟨?_, rfl⟩
      cases h6 : (x == 6) <;> cases h7 : (x == 7) <;> simp [List.contains, List.elem, h6, h7]
  have HK := Lib.hid hK
  have hxb := fun W (hW : Ext w1 W) => xbytes_any a b c d bX W (hbX.ext hW) o1 (by omega) o3 (by omega) (by omega) (by omega) (by omega) (by omega)
  have HXb := Lib.hid hxb
  clear hK hbC hxb Hr Hn
  have hw := switch_ways _ _ _ _ _ _ _ HM.out
  clear HM
  have HK2 : Hid (∀ W, Ext w1 W → Calls Tryz.prog 120 #[a.hunk.v, b.hunk.v] W (Ret (.tuple #[(a.hunk.commute b.hunk).1.v, (a.hunk.commute b.hunk).2.1.v, .bool (a.hunk.commute b.hunk).2.2]) W)) := Lib.hid (fun W _ => hcommute_any a.hunk b.hunk W n1 n2)
  generalize a.hunk.commute b.hunk = hh at hw HK2
  rcases hw with ⟨e1, hv⟩ | ⟨e1, e2, e3, hv⟩ | ⟨e1, e2, e3, e4, hv⟩ | ⟨e1, e2, e3, e4, e5, hv⟩ | ⟨e1, e2, e3, e4, e5, e6, hv⟩ | ⟨e1, e2, e3, e4, e5, e6, hv⟩ | ⟨e1, e2, e3, e4, e5, hv⟩ | ⟨e1, e2, e3, e4, hv⟩ | ⟨e1, e2, e3, e4, e5, e6, hv⟩ | ⟨e1, e2, e3, e4, e5, e6, hv⟩
  · have Hv := Lib.hid hv
    clear hv
    go_wp2_with (first
      | ((with_reducible refine (HK.out _ _ (Ext.refl _)).mono ?_); rintro e w2 ⟨rfl, rfl⟩)
      | ((with_reducible refine (HXb.out _ (Ext.refl _)).mono ?_); rintro e w2 ⟨rfl, hb2, hg2⟩))
    refine bodyPost_ret (v := .bool false) (by simp [results, Tryz.results96, go_sem]) rfl ?_
    rw [Hv.out]
    exact ⟨rfl, hbX, hx.grown _⟩
  · have Hv := Lib.hid hv
    clear hv
    go_wp2_with (first
      | ((with_reducible refine (HK.out _ _ (Ext.refl _)).mono ?_); rintro e w2 ⟨rfl, rfl⟩)
      | ((with_reducible refine (HXb.out _ (Ext.refl _)).mono ?_); rintro e w2 ⟨rfl, hb2, hg2⟩))
    refine bodyPost_ret (v := .bool false) (by simp [results, Tryz.results96, go_sem]) rfl ?_
    rw [Hv.out]
    exact ⟨rfl, hbX, hx.grown _⟩
  · have Hv := Lib.hid hv
    clear hv
    obtain ⟨h1, h2, ok⟩ := hh
    dsimp only at Hv
    clear HXb HK
    go_wp2_with fail
    obtain ⟨W1, hW1⟩ : ∃ W1 : World, W1 = w1 := ⟨_, rfl⟩
    subst hW1
    have hy := Ext.refl W1
    have HX := Lib.hid hx
    clear hx
    have hx := hy
    clear hy
    go_cut [6] (fun u6 wx => Hid (W1.grownBy wx (some bX)) ∧ Blk wx bX 128 (xarr a b (c.withHunk h1) (d.withHunk h2)) ∧ u6 = .bool ok)
    case first =>
      go_region_with (go_at_call 120; refine (HK2.out _ EX).mono ?_; rintro e w1 ⟨rfl, hx0⟩; obtain hy := Ext.trans (a := W1) EX hx0; clear hx; have hx := hy; clear hy; have hnX := BB hx0 (bX); (first | simp [↓heap_drew_at, ↓heap_drewN_at, ↓heap_alloc_at, ↓heap_set_at, ne_two, ne_three, ne_two_left, ne_three_left, ↓hbX.eq, hbX.lt, hbX.ne] at hnX | simp [↓heap_drew_at, ↓heap_drewN_at, ↓heap_alloc_at, ↓heap_set_at, ne_two, ne_three, ne_two_left, ne_three_left] at hnX); (try clear hbX hcX hfX hlX); have hbX := Blk.mk hnX; clear hnX; obtain ⟨hcX, hfX, hlX⟩ := hbX.all)
      all_goals (go_wp2_with fail; go_meet)
      all_goals exact ⟨Lib.hid (grown_set (grown_set (grown_set (grown_set (grown_set (grown_set (hx.grown _) _) _) _) _) _) _), xset_hunks h1 h2 hbX, rfl⟩
    case rest =>
      obtain ⟨HG2, hbX, rfl⟩ := hcut
      go_wp2_with fail
      refine bodyPost_ret (v := .bool ok) (by simp [results, Tryz.results96, go_sem]) rfl ?_
      rw [Hv.out]
      exact ⟨rfl, hbX, grown_trans (HX.out.grown _) HG2.out⟩
  · have Hv := Lib.hid hv
    clear hv
    go_wp2_with (first
      | ((with_reducible refine (HK.out _ _ (Ext.refl _)).mono ?_); rintro e w2 ⟨rfl, rfl⟩)
      | ((with_reducible refine (HXb.out _ (Ext.refl _)).mono ?_); rintro e w2 ⟨rfl, hb2, hg2⟩))
    refine bodyPost_ret (v := .bool (a.xbytes b c d).2.2) (by simp [results, Tryz.results96, go_sem]) rfl ?_
    rw [Hv.out]
    exact ⟨rfl, hb2, grown_trans (hx.grown _) hg2⟩
  · have Hv := Lib.hid hv
    clear hv
    go_wp2_with (first
      | ((with_reducible refine (HK.out _ _ (Ext.refl _)).mono ?_); rintro e w2 ⟨rfl, rfl⟩)
      | ((with_reducible refine (HXb.out _ (Ext.refl _)).mono ?_); rintro e w2 ⟨rfl, hb2, hg2⟩))
    refine bodyPost_ret (v := .bool false) (by simp [results, Tryz.results96, go_sem]) rfl ?_
    rw [Hv.out]
    exact ⟨rfl, hbX, hx.grown _⟩
  · have Hv := Lib.hid hv
    clear hv
    go_wp2_with (first
      | ((with_reducible refine (HK.out _ _ (Ext.refl _)).mono ?_); rintro e w2 ⟨rfl, rfl⟩)
      | ((with_reducible refine (HXb.out _ (Ext.refl _)).mono ?_); rintro e w2 ⟨rfl, hb2, hg2⟩))
    refine bodyPost_ret (v := .bool false) (by simp [results, Tryz.results96, go_sem]) rfl ?_
    rw [Hv.out]
    exact ⟨rfl, hbX, hx.grown _⟩
  · have Hv := Lib.hid hv
    clear hv
    go_wp2_with (first
      | ((with_reducible refine (HK.out _ _ (Ext.refl _)).mono ?_); rintro e w2 ⟨rfl, rfl⟩)
      | ((with_reducible refine (HXb.out _ (Ext.refl _)).mono ?_); rintro e w2 ⟨rfl, hb2, hg2⟩))
    refine bodyPost_ret (v := .bool true) (by simp [results, Tryz.results96, go_sem]) rfl ?_
    rw [Hv.out]
    exact ⟨rfl, hbX, hx.grown _⟩
  · have Hv := Lib.hid hv
    clear hv
    go_wp2_with (first
      | ((with_reducible refine (HK.out _ _ (Ext.refl _)).mono ?_); rintro e w2 ⟨rfl, rfl⟩)
      | ((with_reducible refine (HXb.out _ (Ext.refl _)).mono ?_); rintro e w2 ⟨rfl, hb2, hg2⟩))
    refine bodyPost_ret (v := .bool true) (by simp [results, Tryz.results96, go_sem]) rfl ?_
    rw [Hv.out]
    exact ⟨rfl, hbX, hx.grown _⟩
  · have Hv := Lib.hid hv
    clear hv
    go_wp2_with (first
      | ((with_reducible refine (HK.out _ _ (Ext.refl _)).mono ?_); rintro e w2 ⟨rfl, rfl⟩)
      | ((with_reducible refine (HXb.out _ (Ext.refl _)).mono ?_); rintro e w2 ⟨rfl, hb2, hg2⟩))
    refine bodyPost_ret (v := .bool true) (by simp [results, Tryz.results96, go_sem]) rfl ?_
    rw [Hv.out]
    exact ⟨rfl, hbX, hx.grown _⟩
  · have Hv := Lib.hid hv
    clear hv
    go_wp2_with (first
      | ((with_reducible refine (HK.out _ _ (Ext.refl _)).mono ?_); rintro e w2 ⟨rfl, rfl⟩)
      | ((with_reducible refine (HXb.out _ (Ext.refl _)).mono ?_); rintro e w2 ⟨rfl, hb2, hg2⟩))
    refine bodyPost_ret (v := .bool true) (by simp [results, Tryz.results96, go_sem]) rfl ?_
    rw [Hv.out]
    exact ⟨rfl, hbX, hx.grown _⟩

theorem xcontents_any (a b c d : Pv) (bX : Nat) (w : World) (hbX : Blk w bX 128 (xarr a b c d))
    (o1 : 0 ≤ a.off) (o2 : a.off ≤ 65536) (o3 : 0 ≤ b.off) (o4 : b.off ≤ 65536) (s1 : a.so.size ≤ 65536) (s2 : a.sn.size ≤ 65536) (s3 : b.so.size ≤ 65536) (s4 : b.sn.size ≤ 65536) (n1 : a.hunk.fair) (n2 : b.hunk.fair) :
    Calls Tryz.prog 96 #[.pointer (some ⟨bX, 0, none⟩)] w (XRet bX a b (a.xcontents b c d).1 (a.xcontents b c d).2.1 (a.xcontents b c d).2.2 w) := by
  by_cases hf : Qm.adds a.kind = true ∨ Qm.adds b.kind = true ∨ Qm.eqB a.path c.path = false
  · have hm : a.xcontents b c d = (c, d, true) := by unfold Pv.xcontents; rw [if_pos hf]
    rw [hm]
    exact xcontents_free a b c d bX w hbX hf
  · have f1 : Qm.adds a.kind = false := by cases h : Qm.adds a.kind <;> simp_all
    have f2 : Qm.adds b.kind = false := by cases h : Qm.adds b.kind <;> simp_all
    have he : (a.path.toList == c.path.toList) = true := by
      cases h : (a.path.toList == c.path.toList)
      · exact absurd (.inr (.inr h)) hf
      · rfl
    exact xcontents_met a b c d bX w hbX f1 f2 he o1 o2 o3 o4 s1 s2 s3 s4 n1 n2
end Go.Proofs.YtfmgnaigcibcaaaGreatDoor
