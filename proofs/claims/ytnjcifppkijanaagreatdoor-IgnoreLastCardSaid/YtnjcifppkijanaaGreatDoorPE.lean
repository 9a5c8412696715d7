/- Walks: the states of elements: after, ended. Walks: the states that follow; whether a component fits. What the base texts had been rid of. Loops that hold a range over a function: what they leave to be done at the end; a map's literal. Walks: whether a component pattern fits a component. -/
import Derived.Test.YtnjcifppkijanaaGreatDoorPB
import Derived.Test.YtnjcifppkijanaaGreatDoorRange
import Derived.Test.YtnjcifppkijanaaGreatDoorTu
import Derived.RangeFuncNested
import Derived.RangeFuncBound
import Derived.RangeFuncLeaves
import Derived.Shelf.Abstract
import Derived.Shelf.RegionOpen
import Derived.OwnWalkIn
import Derived.TacticsInMore
import Derived.LoopNIn
import Derived.LoopIn
import Derived.Laws.EntriesVeiled
import Derived.Test.YtnjcifppkijanaaGreatDoorRegion
import Derived.Test.YtnjcifppkijanaaGreatDoorBase
import Derived.Below
import Derived.BigQuiet
import Derived.Deep.Quiet
import Derived.Lib.Hide
import Derived.StillTail
import Derived.WalkKit
import Derived.WalkLawsBesides
import Derived.WalkSpells
set_option linter.unusedSimpArgs false
set_option linter.unusedVariables false
namespace Go.Proofs.YtnjcifppkijanaaGreatDoor
open Go Go.RowKit Go.Shelf
attribute [local go_sem] Oper.semAt_some

section
variable {P : Program}
/-- What the iterator promises, where the rounds keep what it reads. -/
def GivesK {α : Type} (P : Program) (n : Nat) (gf : Nat) (lb : Array Value) (encs : α → Array Value) (bS : Nat) (t : TypeId) (v0 : Value) (xs : List α) (Kp : World → Prop) : Prop :=
  ∀ (l : Nat) (I : List α → World → Prop) (W : World), (∀ pre W v, I pre W → I pre (W.setCell ⟨bS, 0, none⟩ v)) → (∀ pre W, I pre W → Kp W) → (∀ pre W W', I pre W → Ext W W' → I pre W') →
    (∀ pre x W, (∃ rest, pre ++ x :: rest = xs) → I pre W → YieldAt Fence.wide (n - 1) P l (encs x) W fun e W' => e = .returned (.bool true) ∧ I (pre ++ [x]) W' ∧ ∀ v, Boxed W bS t v → Boxed W' bS t v) →
    I [] W → Boxed W bS t v0 →
    CallsIn Fence.wide n P gf (#[.func (.yield l) #[] #[]] ++ lb) W fun e W' => (∃ v, e = .returned v) ∧ I xs W'
/-- The records of loops and of what is to be done at an end. -/
def isRec : Obj → Bool
  | .loop _ => true
  | .deferred _ => true
  | _ => false
structure KeepsRec (W W' : World) : Prop where
  size : W.heap.size ≤ W'.heap.size
  same : ∀ (k : Nat) (o : Obj), W.heap[k]? = some o → isRec o = true → W'.heap[k]? = some o
theorem KeepsRec.of_row {W W' : World} {r : Nat} {o : Obj} (hg : W.grownBy W' (some r)) (ho : W.heap[r]? = some o) (hr : isRec o = false) : KeepsRec W W' :=
  ⟨hg.size, fun k o' hk hk' => (hg.block k (Array.getElem?_eq_some_iff.1 hk).1 (fun e => by cases e; rw [ho] at hk; cases hk; rw [hr] at hk'; cases hk')).trans hk⟩
/-- How the body may end: at its end alone. -/
def goesOnK {α : Type} (J : List α → World → Prop) (bS : Nat) (t : TypeId) (xs : List α) (W : World) : Exit → Act → World → Prop
  | .normal, _, W' => KeepsRec W W' ∧ J xs W' ∧ ∀ v, Boxed W bS t v → Boxed W' bS t v
  | _, _, _ => False
theorem wpIn_range_K {α : Type} {g : Operand} {ps : Array Tmp} {assign body : Code} {Q : Exit → Act → World → Prop} {a : Act} {w : World} {n : Nat}
    {gf : Nat} {lb : Array Value} (hg : a.eval g = .func (.func gf) #[] lb) (eg : ∀ args w, (callFunc gf args).run P w = .ok (.enter gf args) w)
    {encs : α → Array Value} {bS : Nat} {t : TypeId} {v0 : Value} {xs : List α} {Kp : World → Prop} (hseq : GivesK P (n - 1) gf lb encs bS t v0 xs Kp) (hps : ∀ x, (encs x).size = ps.size)
    (J : List α → World → Prop) (hJ : OwnFrom w.heap.size J) (hJK : ∀ pre W, J pre W → Kp W) (hJx : ∀ pre W W', J pre W → Ext W W' → J pre W') (hJs : ∀ pre W v, J pre W → J pre (W.setCell ⟨bS, 0, none⟩ v)) (h0 : J [] w) (hbox : Boxed w bS t v0) (a₁ : α → Act)
    (hassign : ∀ (l : Nat) (x : α) (W : World) (K : Act → World → Prop), K (a₁ x) W →
      assign.wpIn (Fence.wide.inRound l) (n - 1 - 1) P (Exit.then K (fun _ _ _ => False)) { tmps := (ps.zip (encs x)).foldl (fun t (p, v) => t.setIfInBounds p v) a.tmps, defers := [] } W)
    (hbody : ∀ (l : Nat) (pre : List α) (x : α) (W : World), (∃ rest, pre ++ x :: rest = xs) → J pre W → body.wpIn (Fence.wide.inRound l) (n - 1 - 1) P (goesOnK J bS t (pre ++ [x]) W) (a₁ x) W)
    (hdone : ∀ (D : Nat) (W : World), w.heap.size ≤ D → J xs W → W.heap[D]? = some (.deferred (some [])) → Q .normal { a with defers := { target := .collected D, args := #[] } :: a.defers } W) :
    (Code.rangeFunc g ps assign body).wpIn Fence.wide n P Q a w := by
  refine wpIn_rangeFunc fun fn hfn => ?_
  let rec_ : LoopState → Option Code → Loop := fun st pe => { state := st, pending := pe, fn := fn, tmps := a.tmps, params := ps, assign := assign, body := body, defers := w.heap.size }
  let W1 : World := (w.alloc (.deferred (some []))).alloc (.loop (rec_ .ready none))
  have hL1 : W1.heap[w.heap.size + 1]? = some (.loop (rec_ .ready none)) := by
    have := World.alloc_heap_new (w.alloc (.deferred (some []))) (.loop (rec_ .ready none)); rwa [World.size_alloc] at this
  have hD1 : W1.heap[w.heap.size]? = some (.deferred (some [])) := (Below.heap_alloc _ _ _ (by simp)).trans (World.alloc_heap_new w _)
  refine ⟨w.heap.size + 1, [{ target := .collected w.heap.size, args := #[] }], W1, { target := .fn (.func gf) lb, args := #[.func (.yield (w.heap.size + 1)) #[] #[]] }, W1, gf,
    #[.func (.yield (w.heap.size + 1)) #[] #[]] ++ lb, W1, run_enterLoop_outer _ _ _ _ _, ?_, fun f' hf' => trivial, ?_, fun h => (by cases h), ?_⟩
  · simp only [resolve, hg]
    simp [go_sem]
  · simp [invoke, go_sem, eg]
  · refine (hseq (w.heap.size + 1) (fun pre W => J pre W ∧ W.heap[w.heap.size + 1]? = some (.loop (rec_ .ready none)) ∧ W.heap[w.heap.size]? = some (.deferred (some []))) W1 ?_ (fun pre W h => hJK pre W h.1) (fun pre W W' h hx => ⟨hJx pre W W' h.1 hx, (Below.block hx _ (Array.getElem?_eq_some_iff.1 h.2.1).1).trans h.2.1, (Below.block hx _ (Array.getElem?_eq_some_iff.1 h.2.2).1).trans h.2.2⟩) ?_
      ⟨hJ.alloc _ (hJ.alloc _ h0), hL1, hD1⟩ ((hbox.alloc _).alloc _)).mono ?_
    · rintro pre W v ⟨h1, h2, h3⟩
      have hk := KeepsOthers.setCell W ⟨bS, 0, none⟩ v
      exact ⟨hJs pre W v h1, hk.same _ _ h2 rfl, hk.same _ _ h3 rfl⟩
    · rintro pre x W hpre ⟨hi, hl, hd⟩
      have hlt : w.heap.size + 1 < W.heap.size := (Array.getElem?_eq_some_iff.1 hl).1
      have hy := run_yield (P := P) (args := encs x) hl (hps x)
      refine ⟨fn, _, assign, body, hy, roundIn_of_wpIn hfn (hassign _ x W _ ⟨_, run_beginRound hl rfl, ?_⟩)⟩
      have hl2 : (W.putObj (w.heap.size + 1) (.loop { rec_ .ready none with state := .busy })).heap[w.heap.size + 1]? = some (.loop { rec_ .ready none with state := .busy }) := World.putObj_heap_same hlt
      have hd2 : (W.putObj (w.heap.size + 1) (.loop { rec_ .ready none with state := .busy })).heap[w.heap.size]? = some (.deferred (some [])) := (World.putObj_heap_other (by omega)).trans hd
      have hbx : ∀ {o : Obj} {W₀ : World} {v : Value}, W₀.heap[w.heap.size + 1]? = some o → o.isCells = false → Boxed W₀ bS t v → ∀ o', Boxed (W₀.putObj (w.heap.size + 1) o') bS t v := by
        intro o W₀ v ho hc hb o'
        refine (World.putObj_heap_other fun e => ?_).trans hb
        have hb' : W₀.heap[bS]? = _ := hb
        rw [e, ho] at hb'
        cases hb'
        cases hc
      refine wpIn_mono (hbody _ pre x _ hpre (hJ.putObj _ hi (by omega) hl rfl)) ?_
      rintro e a3 W3 hp
      cases e with
      | normal =>
        obtain ⟨hk3, hj3, hb3⟩ := hp
        have hl3 := hk3.same _ _ hl2 rfl
        refine ⟨_, _, run_endRound (P := P) none hl3, rfl, ⟨hJ.putObj _ hj3 (by omega) hl3 rfl, World.putObj_heap_same (Array.getElem?_eq_some_iff.1 hl3).1, (World.putObj_heap_other (by omega)).trans (hk3.same _ _ hd2 rfl)⟩, fun v hv => ?_⟩
        exact hbx hl3 rfl (hb3 v (hbx hl rfl hv _)) _
      | ret => exact hp.elim
      | exit id => exact hp.elim
      | goto t => exact hp.elim
      | panic ch => exact hp.elim
      | outgrown => exact hp.elim
    · rintro e W2 ⟨⟨v, rfl⟩, hi, hl, hd⟩
      refine ⟨none, _, run_endLoop (P := P) hl (by simp [rec_]), ?_⟩
      exact hdone _ _ (Nat.le_refl _) (hJ.putObj _ hi (by omega) hl rfl) ((World.putObj_heap_other (by omega)).trans hd)

/-- One loop variable: yield's argument comes in slot p and is assigned to slot k. -/
theorem wpIn_range_K1 {α : Type} {g : Operand} {p : Tmp} (k : Tmp) {assign body : Code} {Q : Exit → Act → World → Prop} {a : Act} {w : World} {n : Nat}
    {gf : Nat} {lb : Array Value} (hg : a.eval g = .func (.func gf) #[] lb) (eg : ∀ args w, (callFunc gf args).run P w = .ok (.enter gf args) w)
    {enc : α → Value} {bS : Nat} {t : TypeId} {v0 : Value} {xs : List α} {Kp : World → Prop} (hseq : GivesK P (n - 1) gf lb (fun x => #[enc x]) bS t v0 xs Kp)
    (J : List α → World → Prop) (hJ : OwnFrom w.heap.size J) (hJK : ∀ pre W, J pre W → Kp W) (hJx : ∀ pre W W', J pre W → Ext W W' → J pre W') (hJs : ∀ pre W v, J pre W → J pre (W.setCell ⟨bS, 0, none⟩ v)) (h0 : J [] w) (hbox : Boxed w bS t v0)
    (hassign : ∀ (l : Nat) (x : α) (W : World) (K : Act → World → Prop), K { tmps := (a.tmps.setIfInBounds p (enc x)).setIfInBounds k (enc x), defers := [] } W →
      assign.wpIn (Fence.wide.inRound l) (n - 1 - 1) P (Exit.then K (fun _ _ _ => False)) { tmps := a.tmps.setIfInBounds p (enc x), defers := [] } W)
    (hbody : ∀ (l : Nat) (pre : List α) (x : α) (W : World), (∃ rest, pre ++ x :: rest = xs) → J pre W → body.wpIn (Fence.wide.inRound l) (n - 1 - 1) P (goesOnK J bS t (pre ++ [x]) W) { tmps := (a.tmps.setIfInBounds p (enc x)).setIfInBounds k (enc x), defers := [] } W)
    (hdone : ∀ (D : Nat) (W : World), w.heap.size ≤ D → J xs W → W.heap[D]? = some (.deferred (some [])) → Q .normal { a with defers := { target := .collected D, args := #[] } :: a.defers } W) :
    (Code.rangeFunc g #[p] assign body).wpIn Fence.wide n P Q a w :=
  wpIn_range_K hg eg hseq (fun _ => rfl) J hJ hJK hJx hJs h0 hbox (fun x => { tmps := (a.tmps.setIfInBounds p (enc x)).setIfInBounds k (enc x), defers := [] })
    (fun l x W K hK => by simpa using hassign l x W K hK) hbody hdone
end
theorem after_any (A : Option Addr) (n c i : Nat) (b : UInt8) (w : World) :
    Calls Tryz.prog 174 #[.slice A n c, .int .i64 i, .int .u8 b.toNat] w fun e w' => e = .returned (.func (.func 181) #[] #[.pointer (some ⟨w.heap.size + 1, 0, none⟩), .pointer (some ⟨w.heap.size, 0, none⟩), .pointer (some ⟨w.heap.size + 1 + 1, 0, none⟩)]) ∧
      ((w.alloc (.cells #[.slice A n c] 108)).alloc (.cells #[.int .i64 i] 3)).alloc (.cells #[.int .u8 b.toNat] 5) = w' := by
  go_enter Tryz.func174, Tryz.ntmps174
  go_wp2
  go_ret
  simp
set_option maxHeartbeats 2000000 in
theorem ended_any (A : Option Addr) (n c i : Nat) (l : List Gl.El) (w : World) {F : Nat → Prop} (h : Els w F A l) (hn : l.length = n) (hi : i ≤ n) (hb : n ≤ 1000000) :
    Calls Tryz.prog 175 #[.slice A n c, .int .i64 i] w (Ret (.bool (Gl.ended l i)) w) := by
  have HL := Lib.hid h
  have HN := Lib.hid hn
  have hx := Ext.refl w
  obtain ⟨R, hR⟩ : ∃ R, R = Gl.ended l i := ⟨_, rfl⟩
  have HR := Lib.hid hR
  rw [← hR]
  clear h hn hR
  go_enter Tryz.func175, Tryz.ntmps175
  go_wp2_with fail
  go_loopw [1] (fun u wr => ∃ k : Nat, k ≤ n ∧ u = .int .i64 k ∧ Hid (R = Gl.ended l k) ∧ Hid (Ext w wr)) (fun u wr => n - (intOf u).toNat)
  case atStart => exact ⟨i, hi, rfl, HR, Lib.hid hx⟩
  case round =>
    clear HR hx
    obtain ⟨k, hk, rfl, HR, HX⟩ := hrel
    by_cases hlt : k < n
    · have hkl : k < l.length := by rw [HN.out]; exact hlt
      have e0 : l[k]? = some l[k] := List.getElem?_eq_getElem _
      obtain ⟨b, o, cs, rfl, hbl, _, _, hr, lit, bb, m, rfl, _, _⟩ := HL.out.get e0
      have c0 := (HX.out.cell (p := ⟨b, o + k * 4, none⟩) hbl).trans (hr 0 (.bool l[k].isNone) rfl)
      have hd := Gl.drop_at e0
      have HD := Lib.hid hd
      clear hr hd e0
      generalize l[k] = x at c0 HD
      cases x with
      | none =>
        have HR2 : Hid (R = Gl.ended l (k + 1)) := Lib.hid (by rw [HR.out]; unfold Gl.ended; rw [HD.out]; rfl)
        clear HR
        go_wp2_with fail
        go_roundw
        case rel => exact ⟨k + 1, hlt, rfl, HR2, HX⟩
        case measure => simp [intOf]; omega
      | some p =>
        have hv : R = false := by rw [HR.out]; unfold Gl.ended; rw [HD.out]; rfl
        clear HR
        subst hv
        go_wp2_with fail
        go_ret
        exact ⟨rfl, HX.out⟩
    · obtain rfl : k = n := by omega
      have hv : R = true := by rw [HR.out]; unfold Gl.ended; rw [List.drop_eq_nil_iff.2 (by rw [HN.out]; exact Nat.le_refl _)]; rfl
      clear HR
      subst hv
      go_wp2_with fail
      go_ret
      exact ⟨rfl, HX.out⟩
end Go.Proofs.YtnjcifppkijanaaGreatDoor
namespace Go.Proofs.YtnjcifppkijanaaGreatDoor
open Go Go.RowKit Go.Shelf
attribute [local go_sem] Oper.semAt_some

theorem Gl.aft_star {α β : Type} {f : α → β → Bool} {l : List (Option α)} {c : β} {n i : Nat} (h : l[i]? = some none) : Gl.aft f l c (n + 1) i = i :: Gl.aft f l c n (i + 1) := by
  simp only [Gl.aft, h]
theorem Gl.aft_set {α β : Type} {f : α → β → Bool} {l : List (Option α)} {c : β} {n i : Nat} {a : α} (h : l[i]? = some (some a)) : Gl.aft f l c (n + 1) i = if f a c then [i + 1] else [] := by
  simp only [Gl.aft, h]
theorem Gl.aft_end {α β : Type} {f : α → β → Bool} {l : List (Option α)} {c : β} {n i : Nat} (h : l.length ≤ i) : Gl.aft f l c n i = [] := by
  cases n with
  | zero => rfl
  | succ n => simp only [Gl.aft, List.getElem?_eq_none h]
/-- A pattern's element at a byte. -/
abbrev elf : (UInt8 → Bool) → UInt8 → Bool := fun p c => p c
def boxInt (b : Nat) (w : World) : Nat := match w.cell? ⟨b, 0, none⟩ with | some (.int _ z) => z.toNat | _ => 0
theorem boxInt_eq {W : World} {b i : Nat} (h : Boxed W b 3 (.int .i64 i)) : boxInt b W = i := by
  unfold boxInt; rw [h.cell]; simp
set_option maxHeartbeats 8000000 in
set_option maxRecDepth 100000 in
theorem after1_gives (n0 : Nat) (hn0 : 3 ≤ n0) (bL bI bC : Nat) (A : Option Addr) (n cp i0 : Nat) (c : UInt8) (l : List Gl.El) (hn : l.length = n) (hi0 : i0 ≤ n) (hb : n ≤ 1000000) (w0 : World) {F : Nat → Prop} (hel : Els w0 F A l) (hne1 : bI ≠ bL) (hne2 : bI ≠ bC) :
    GivesK Tryz.prog n0 181 #[.pointer (some ⟨bI, 0, none⟩), .pointer (some ⟨bL, 0, none⟩), .pointer (some ⟨bC, 0, none⟩)] (fun j : Nat => #[.int .i64 j]) bI 3 (.int .i64 i0) (Gl.aft elf l c n i0)
      (fun W => Ext w0 W ∧ Blk W bL 108 #[.slice A n cp] ∧ Blk W bC 5 #[.int .u8 c.toNat]) := by
  intro l' I W hIs hIK hIx hY h0 hbx
  have HIX := Lib.hid hIx
  have HY := Lib.hid hY
  have HIS := Lib.hid hIs
  have HIK := Lib.hid hIK
  have HL := Lib.hid hel
  have HN := Lib.hid hn
  clear hY hIs hIK hIx hel hn
  refine callsIn_of_wp Tryz.func181 rfl trivial ?_ rfl
  simp only [Tryz.ntmps181, List.size_toArray, List.length_cons, List.length_nil, Nat.reduceAdd, Nat.reduceSub, Array.replicate_succ, Array.replicate_zero, List.push_toArray, List.append_toArray, List.nil_append, List.cons_append]
  gi_wp2
  gi_loopw [5] (fun _ wr => ∃ (i m : Nat) (pre : List Nat), Boxed wr bI 3 (.int .i64 i) ∧ i ≤ n ∧ Hid (I pre wr) ∧ Hid (pre ++ Gl.aft elf l c m i = Gl.aft elf l c n i0 ∧ n ≤ i + m)) (fun _ wr => n - boxInt bI wr)
  case atStart => exact ⟨i0, n, [], hbx, hi0, Lib.hid h0, Lib.hid ⟨rfl, Nat.le_add_left _ _⟩⟩
  case round =>
    clear h0 hbx
    obtain ⟨i, m, pre, hbx, hin, HI, HE⟩ := hrel
    obtain ⟨hx, hbl, hbc⟩ := HIK.out _ _ HI.out
    have hci := hbx.cell
    have hfi := hbx.frozen
    have hcl := hbl.cell
    have hcc := hbc.cell
    have hms := boxInt_eq hbx
    by_cases hlt : i < n
    · have hil : i < l.length := by rw [HN.out]; exact hlt
      have e1 : l[i]? = some (l[i]'hil) := List.getElem?_eq_getElem hil
      obtain ⟨b, o, cs, rfl, hbb, -, -, hr, lit, bb, mm, rfl, -, hfun⟩ := HL.out.get e1
      have c0 := (hx.cell (p := ⟨b, o + i * 4, none⟩) hbb).trans (hr 0 _ rfl)
      have c3 := (hx.cell (p := ⟨b, o + i * 4 + 3, none⟩) hbb).trans (hr 3 _ rfl)
      have E1 := Lib.hid e1
      have HX := Lib.hid hx
      have HFU := Lib.hid hfun
      clear hr e1 hx hfun
      generalize l[i]'hil = x at c0 E1 HFU
      clear hil
      obtain ⟨m, rfl⟩ : ∃ k, m = k + 1 := ⟨m - 1, by have := HE.out.2; omega⟩
      cases x with
      | none =>
        have hae : Gl.aft elf l c (m + 1) i = i :: Gl.aft elf l c m (i + 1) := Gl.aft_star E1.out
        obtain ⟨fn, tmps, assign, body, hy, hR⟩ := HY.out pre i wr ⟨Gl.aft elf l c m (i + 1), by rw [← hae]; exact HE.out.1⟩ HI.out
        have HE2 : Hid (pre ++ [i] ++ Gl.aft elf l c m (i + 1) = Gl.aft elf l c n i0 ∧ n ≤ i + 1 + m) := Lib.hid ⟨by rw [List.append_assoc, ← HE.out.1, hae]; rfl, by have := HE.out.2; omega⟩
        have HR := Lib.hid hR
        clear hR hae HE
        gi_wp2
        refine ⟨fun _ => (by omega), HR.out.mono ?_⟩
        rintro e W3 ⟨rfl, hI3, hB3⟩
        have hb3 := hB3 _ hbx
        have hci3 := hb3.cell
        have hfi3 := hb3.frozen
        have HI3 := Lib.hid (HIS.out _ _ (.int .i64 ((i : Int) + 1)) hI3)
        have HB4 : Hid (Boxed (W3.setCell ⟨bI, 0, none⟩ (.int .i64 ((i : Int) + 1))) bI 3 (.int .i64 ((i : Int) + 1))) := Lib.hid (hb3.set _)
        have hms2 := boxInt_eq (i := i + 1) HB4.out
        clear hI3 hB3 HR hci hfi hcl hcc c0 c3 hbl hbc
        gi_wp2
        go_roundw
        case rel => exact ⟨i + 1, m, pre ++ [i], HB4.out, hlt, HI3, HE2⟩
        case measure => rw [hms, hms2]; omega
      | some p =>
        obtain ⟨gg, caps, rfl, eg, hfn⟩ := HFU.out p rfl
        have HP : Hid (∀ W', Ext wr W' → Calls Tryz.prog gg (#[.int .u8 c.toNat] ++ caps) W' (Ret (.bool (p c)) W')) := Lib.hid fun W' hW => hfn W' c (Keep3.of_ext (HX.out.trans hW))
        have hae : Gl.aft elf l c (m + 1) i = if p c = true then [i + 1] else [] := Gl.aft_set E1.out
        have HC0 : Hid (∀ W', Ext wr W' → W'.cell? ⟨bI, 0, none⟩ = some (.int .i64 i) ∧ (∀ k, W'.cell? ⟨bL, k, none⟩ = (#[.slice (some ⟨b, o, none⟩) n cp] : Array Value)[k]?) ∧ (∀ k, W'.cell? ⟨bC, k, none⟩ = (#[.int .u8 c.toNat] : Array Value)[k]?) ∧ W'.cell? ⟨b, o + i * 4 + 3, none⟩ = some (.func (.func gg) #[] caps)) := Lib.hid fun W' hW =>
          ⟨(hW.cell (p := ⟨bI, 0, none⟩) hbx.lt).trans hci, (Blk.ext hW hbl).cell, (Blk.ext hW hbc).cell, (hW.cell (p := ⟨b, _, none⟩) (Nat.lt_of_lt_of_le hbb HX.out.size_le)).trans c3⟩
        have HAE := Lib.hid hae
        clear hfn hae HFU
        gi_wp2
        refine wpIn_wide.2 ?_
        refine wp_region_ext (by kernel_rfl) (by kernel_rfl) ?_
        repeat (first | go_big_quiet_skip | (go_big_quiet_want; first | (go_big_quiet_op; go_big_quiet_on) | (apply quiet_at; intro W' hW; obtain ⟨q0, q1, q2, q3⟩ := HC0.out W' hW; go_simp; (first | exact rfl | (simp only [Oper.quietUpon, true_and]; first | exact rfl | (exact quiet_call hW (HP.out W' hW) (fun _ _ h => h))) | (exact quiet_call hW (HP.out W' hW) (fun _ _ h => h))); go_big_quiet_on; simp only [Act.put, sA, s0, sS])))
        refine wpQuiet_nil ?_
        intro w9 hx9
        have HI9 := Lib.hid (HIX.out _ _ _ HI.out hx9)
        have hb9 : Boxed w9 bI 3 (.int .i64 i) := Blk.ext hx9 hbx
        have hci9 := hb9.cell
        have hfi9 := hb9.frozen
        cases hpc : p c with
        | false =>
          have hfin : pre = Gl.aft elf l c n i0 := by have h5 := HE.out.1; rwa [HAE.out, hpc, if_neg (by decide), List.append_nil] at h5
          have HFN := Lib.hid hfin
          clear hfin HE hci hfi hcl hcc c3 hbl hbc HC0 HP HI HAE hb9 hx9
          gi_wp2
          refine bodyPost_ret (results_none rfl _ _ _) rfl ?_
          exact ⟨⟨_, rfl⟩, by rw [← HFN.out]; exact HI9.out⟩
        | true =>
          have hfin : pre ++ [i + 1] = Gl.aft elf l c n i0 := by have h5 := HE.out.1; rwa [HAE.out, hpc, if_pos rfl] at h5
          have HFN := Lib.hid hfin
          obtain ⟨fn, tmps, assign, body, hy, hR⟩ := HY.out pre (i + 1) w9 ⟨[], hfin⟩ HI9.out
          simp only [show ((i + 1 : Nat) : Int) = (i : Int) + 1 from rfl] at hy hR
          have HR := Lib.hid hR
          have hwi : IntKind.i64.wrap ((i : Int) + 1) = (i : Int) + 1 := IntWalk.i64_in _ (by omega)
          clear hfin HE hci hfi hcl hcc c3 hbl hbc HC0 HP HI HAE hb9 hx9 hR
          gi_wp2
          refine ⟨fun _ => (by omega), HR.out.mono ?_⟩
          rintro e W3 ⟨rfl, hI3, hB3⟩
          have HI3 := Lib.hid hI3
          clear hI3 hB3 HR
          gi_wp2
          refine bodyPost_ret (results_none rfl _ _ _) rfl ?_
          exact ⟨⟨_, rfl⟩, by rw [← HFN.out]; exact HI3.out⟩
    · have hbi : decide ((i : Int) < (n : Int)) = false := decide_eq_false (by omega)
      have hfin : pre = Gl.aft elf l c n i0 := by have h5 := HE.out.1; rwa [Gl.aft_end (by rw [HN.out]; omega), List.append_nil] at h5
      have HFN := Lib.hid hfin
      clear hfin
      gi_wp2
      go_end0
      exact ⟨⟨_, rfl⟩, by rw [← HFN.out]; exact HI.out⟩
end Go.Proofs.YtnjcifppkijanaaGreatDoor
namespace Go.Proofs.YtnjcifppkijanaaGreatDoor
open Go Go.RowKit

section
variable {P : Program} {ops : Array Oper} {md : Region.Mode} {C : World → Prop}

/-- Exactly f operations come up, each below n and quiet; then L holds. -/
def HeadQ (P : Program) (md : Region.Mode) (ops : Array Oper) (C : World → Prop) (n : Nat) (L : Array Bool → Act → Prop) : Nat → Array Bool → Act → Prop
  | 0, listed, a => L listed a
  | f + 1, listed, a => Region.ready md ops listed ≠ [] ∧ ∀ i ∈ Region.ready md ops listed, i < n ∧ qOp P ops C i (HeadQ P md ops C n L f (listed.setIfInBounds i true)) a

theorem any_of_headQ {n g : Nat} {L : Array Bool → Act → Prop} {Q : Exit → Act → World → Prop} (hL : ∀ listed a w, C w → L listed a → wpAny P md ops Q g listed a w) :
    ∀ (f : Nat) (listed : Array Bool) (a : Act) (w : World), C w → HeadQ P md ops C n L f listed a → wpAny P md ops Q (g + f) listed a w := by
  intro f
  induction f with
  | zero => intro listed a w hw h; exact hL _ _ _ hw h
  | succ f ih =>
    intro listed a w hw h
    exact ⟨fun h0 => (h.1 h0).elim, fun i hi => wpOp_of_qOp hw (fun a' w' hw' h' => ih _ a' w' hw' h') (h.2 i hi).2⟩

/-- While something of the head has not come up, only the head may come up. -/
theorem headQ_only {n i : Nat} {listed : Array Bool} (hs : Region.sinkB md ops n = true) (hc : Region.chainB md ops n = true) (hn : n < ops.size) (inv : HeadInv md ops n listed)
    (hin : i < n) (hun : listed.getD i true = false) {j : Nat} (hj : j ∈ Region.ready md ops listed) : j < n := by
  refine Nat.lt_of_not_le fun h => ?_
  exact tail_waits hs hc hn inv _ i rfl hin hun j h hj

theorem headQ_first {n i : Nat} {oi : Oper} {v : Value} {L : Array Bool → Act → Prop} (hi : ops[i]? = some oi) (hsel : ∀ (j : Nat) (o : Oper) cs b, ops[j]? = some o → o.op ≠ .select cs b)
    (hs : Region.sinkB md ops n = true) (hc : Region.chainB md ops n = true) (hn : n < ops.size) (hin : i < n)
    (hL : ∀ listed a, L listed a → ∀ j ∈ Region.ready md ops listed, n ≤ j) (f : Nat) :
    ∀ (listed : Array Bool) (a : Act), HeadInv md ops n listed →
      (∀ j oj, ops[j]? = some oj → j ≠ i → listed.getD j true = false → (∀ e ∈ oj.after, Region.binds md e = true → e.on ≠ i) → oi.apart ops oj = true) →
      i ∈ Region.ready md ops listed → YieldsIn P ops C oi v a →
      HeadQ P md ops C n L f (listed.setIfInBounds i true) (a.put oi.dst v) → HeadQ P md ops C n L (f + 1) listed a := by
  induction f with
  | zero =>
    intro listed a inv _ hr hy H
    have only := fun j (hj : j ∈ Region.ready md ops listed) => headQ_only hs hc hn inv hin (mem_ready.1 hr).1 hj
    refine ⟨List.ne_nil_of_mem hr, fun j hj => ⟨only j hj, ?_⟩⟩
    rcases Nat.decEq j i with hne | rfl
    · have h1 := hL _ _ H j (ready_mono hj hne)
      have h2 := only j hj
      omega
    · exact hy.qOp hi H
  | succ f ih =>
    intro listed a inv apart hr hy H
    have only := fun j (hj : j ∈ Region.ready md ops listed) => headQ_only hs hc hn inv hin (mem_ready.1 hr).1 hj
    refine ⟨List.ne_nil_of_mem hr, fun j hj => ⟨only j hj, ?_⟩⟩
    rcases Nat.decEq j i with hne | rfl
    · have hun := (mem_ready.1 hr).1
      obtain ⟨hjun, oj, hoj, hall⟩ := mem_ready.1 hj
      have hnot : ∀ e ∈ oj.after, Region.binds md e = true → e.on ≠ i := by
        intro e he hb heq
        have h1 := hall e he hb
        rw [heq, getD_both hun] at h1
        cases h1
      have step := qOp_put hoj (apart j oj hoj hne hjun hnot) (fun cs b => hsel i oi cs b hi) (fun cs b => hsel j oj cs b hoj) hy (H.2 j (ready_mono hj hne)).2
      refine qOp_mono (fun a' h3 => ?_) step
      refine ih _ a' (inv.set hj (only j hj)) ?_ (ready_mono hr (Ne.symm hne)) h3.1 ?_
      · intro k ok hk hki hku hkn
        refine apart k ok hk hki ?_ hkn
        rcases Nat.decEq j k with hjk | rfl
        · rwa [getD_set_ne true hjk] at hku
        · exact hjun
      · rw [Array.setIfInBounds_comm _ _ hne]
        exact h3.2
    · exact hy.qOp hi H

theorem headQ_lex {n g : Nat} {Q : Act → Prop} (hsel : Region.noSelect ops = true) (hs : Region.sinkB md ops n = true) (hc : Region.chainB md ops n = true) (hn : n < ops.size) (l : List Oper) :
    ∀ (k : Nat) (listed : Array Bool) (a : Act), (∀ j, j < l.length → l[j]? = ops[k + j]?) → k + l.length = n → HeadInv md ops n listed →
    Region.lexHead md ops g l.length k listed = true → wpQuiet P ops C Q l a →
    HeadQ P md ops C n (fun listed' a' => Region.seqB md ops g n listed' = true ∧ Q a') l.length listed a := by
  induction l with
  | nil =>
    intro k listed a _ hk _ hB h
    obtain rfl : k = n := by simpa using hk
    exact ⟨by simpa [Region.lexHead] using hB, h⟩
  | cons o l ih =>
    intro k listed a hl hk inv hB h
    have h0 : ops[k]? = some o := by simpa using (hl 0 (by simp)).symm
    simp only [List.length_cons] at hk
    simp only [List.length_cons, Region.lexHead, Bool.and_eq_true] at hB
    have hr : k ∈ Region.ready md ops listed := by simpa using hB.1.1
    have hq : qOp P ops C k (wpQuiet P ops C Q l) a := by unfold qOp; simp only [h0]; exact h
    obtain ⟨v, hy, hK⟩ := yieldsIn_of_qOp h0 hq
    refine headQ_first h0 (Region.noSelect_spec hsel) hs hc hn (by omega) (fun _ _ hL => seqB_ready hL.1) l.length listed a inv (Region.free_spec h0 hB.1.2) hr hy ?_
    refine ih (k + 1) _ _ (fun j hj => ?_) (by omega) (inv.set hr (by omega)) hB.2 hK
    have := hl (j + 1) (by simp; omega)
    simpa [Nat.add_assoc, Nat.add_comm 1 j] using this

/-- **One walk of the text's order**: the first n operations quiet in the class; the others, which come one after the other, as an ordinary list, from every world of the class. -/
theorem wp_region_quiet_tail {id : Nat} {Q : Exit → Act → World → Prop} {a : Act} {w : World} {l : List Oper} (n : Nat) (C : World → Prop) (hm : P.follows .mixedOrders = true)
    (hB : Region.lexTailB .any l.toArray n = true) (hC : C { w with drawn := w.drawn + 1 })
    (h : wpQuiet P l.toArray C (fun a' => ∀ w', C w' → wpList P l.toArray Q (l.drop n) a' w') (l.take n) a) : (Code.region id l.toArray true).wp P Q a w := by
  simp only [Region.lexTailB, Bool.and_eq_true, decide_eq_true_eq] at hB
  obtain ⟨⟨⟨⟨hsel, hn⟩, hs⟩, hc⟩, hlex⟩ := hB
  have hnl : n < l.length := by simpa using hn
  have htake : (l.take n).length = n := by rw [List.length_take]; omega
  have hdrop : (l.drop n).length = l.toArray.size - n := by simp
  have inv0 : HeadInv .any l.toArray n (Array.replicate l.toArray.size false) := by
    refine ⟨by simp, fun j oj _ hl => ?_, fun t _ ht => getD_in (by simpa using ht) (getD_replicate_false _ _)⟩
    rw [getD_replicate_false] at hl
    cases hl
  have H := headQ_lex (P := P) (md := .any) (C := C) (g := l.toArray.size - n) hsel hs hc hn (l.take n) 0 _ a
    (fun j hj => by rw [htake] at hj; simp [hj]) (by simpa using htake) inv0 (by rw [htake]; exact hlex) h
  refine wp_region_any hm ?_
  have key := any_of_headQ (Q := Q) (g := l.toArray.size - n) (fun listed a' w' hw' hL => by
    have := wpAny_of_seq (md := .any) (Q' := Q) (l.drop n) n listed a' w' (fun j => by simp [List.getElem?_drop]) (by rw [hdrop]; exact hL.1) (hL.2 w' hw')
    rwa [hdrop] at this) _ _ _ _ hC H
  rw [htake, show l.toArray.size - n + n = l.toArray.size by omega] at key
  exact key

end

theorem Ext.cellAt {w w' : World} (h : Ext w w') (b : Nat) (hb : b < w.heap.size) : ∀ o, w'.cell? ⟨b, o, none⟩ = w.cell? ⟨b, o, none⟩ := fun o => h.cell (p := ⟨b, o, none⟩) hb
theorem Ext.frozenAt {w w' : World} (h : Ext w w') (b : Nat) (hb : b < w.heap.size) : ∀ o, w'.frozen? ⟨b, o, none⟩ = w.frozen? ⟨b, o, none⟩ := fun o => h.frozen (p := ⟨b, o, none⟩) hb

section
variable {w w' : World} {g : Nat} {t : TypeId} {cs : Array Value}
end

theorem wp_region_ext_tail {P : Program} {id : Nat} {Q : Exit → Act → World → Prop} {a : Act} {w : World} {l : List Oper} (n : Nat) (hm : P.follows .mixedOrders = true)
    (hB : Region.lexTailB .any l.toArray n = true) (h : wpQuiet P l.toArray (Ext w) (fun a' => ∀ w', Ext w w' → wpList P l.toArray Q (l.drop n) a' w') (l.take n) a) : (Code.region id l.toArray true).wp P Q a w :=
  wp_region_quiet_tail n (Ext w) hm hB (Ext.drew w) h
/-- A call in the class: the callee's contract, from whatever world of the class. -/
theorem calls_ext {P : Program} {f : FuncId} {args : Array Value} {w w' : World} {v : Value} (hw : Ext w w') (h : Calls P f args w' fun e w'' => e = .returned v ∧ Ext w' w'') :
    Calls P f args w' fun e w'' => e = .returned v ∧ Ext w w'' := h.mono fun _ _ ⟨he, hx⟩ => ⟨he, hw.trans hx⟩
open Go.RowKit

end Go.Proofs.YtnjcifppkijanaaGreatDoor
namespace Go.Proofs.YtnjcifppkijanaaGreatDoor
open Go Go.RowKit Go.Shelf

/-- What ranges over functions have left behind: records that hold nothing. -/
structure Marks (base : Nat) (ds : List Deferred) (w : World) : Prop where
  each : ∀ d ∈ ds, ∃ D, d.target = .collected D ∧ base ≤ D ∧ w.heap[D]? = some (.deferred (some []))
  apart : ds.Pairwise fun d d' => ∀ D, d.target = .collected D → d'.target ≠ .collected D
theorem Marks.nil (base : Nat) (w : World) : Marks base [] w := ⟨(fun d h => by cases h), List.Pairwise.nil⟩
theorem Marks.keep {base : Nat} {ds : List Deferred} {w w' : World} (h : Marks base ds w) (hk : KeepsOthers w w') : Marks base ds w' :=
  ⟨fun d hd => let ⟨D, h1, h2, h3⟩ := h.each d hd; ⟨D, h1, h2, hk.same _ _ h3 rfl⟩, h.apart⟩
theorem Marks.cons {base : Nat} {ds : List Deferred} {w : World} (h : Marks base ds w) {D : Nat} (hD : base ≤ D) (hw : w.heap[D]? = some (.deferred (some []))) (hnew : ∀ d ∈ ds, d.target ≠ .collected D) : Marks base ({ target := .collected D, args := #[] } :: ds) w := by
  refine ⟨fun d hd => ?_, List.pairwise_cons.2 ⟨fun d' hd' D' e => ?_, h.apart⟩⟩
  · rcases List.mem_cons.1 hd with rfl | hd
    · exact ⟨D, rfl, hD, hw⟩
    · exact h.each d hd
  · cases e
    exact hnew d' hd'
/-- An iterator over a map, and it is turned. -/
theorem NumR.iter {w : World} {b r N cnt : Nat} {S left : Nat → Prop} (h : NumR w b r N S left cnt) : ∃ o, w.heap[r]? = some o ∧ ∀ ds, o ≠ .deferred ds := by
  obtain ⟨D, lf, ⟨es, clock, since, seen, c0, k1, k2, k3, k4, k5, k6⟩, _⟩ := h
  exact ⟨_, k5, fun ds e => by cases e⟩
theorem Num.what {w : World} {b N : Nat} {S : Nat → Prop} (h : Num w b N S) : ∃ o, w.heap[b]? = some o ∧ ∀ ds, o ≠ .deferred ds := by
  obtain ⟨D, ⟨es, clock, k1, _⟩, _⟩ := h
  exact ⟨_, k1, fun ds e => by cases e⟩
theorem Marks.keptRow {base : Nat} {ds : List Deferred} {w w' : World} {r : Nat} (h : Marks base ds w) (hg : w.grownBy w' (some r)) (hr : ∃ o, w.heap[r]? = some o ∧ ∀ ds, o ≠ .deferred ds) : Marks base ds w' :=
  ⟨fun d hd => by
    obtain ⟨D, h1, h2, h3⟩ := h.each d hd
    refine ⟨D, h1, h2, (hg.block D (Array.getElem?_eq_some_iff.1 h3).1 fun e => ?_).trans h3⟩
    cases e
    obtain ⟨o, h4, h5⟩ := hr
    rw [h3] at h4
    cases h4
    exact h5 _ rfl, h.apart⟩
/-- All of them lie below. -/
theorem Marks.lt {base : Nat} {ds : List Deferred} {w : World} (h : Marks base ds w) {D : Nat} (hD : w.heap.size ≤ D) : ∀ d ∈ ds, d.target ≠ .collected D := fun d hd e => by
  obtain ⟨D', h1, _, h3⟩ := h.each d hd
  rw [h1] at e
  cases e
  have := (Array.getElem?_eq_some_iff.1 h3).1
  omega
theorem leaves_marks {F : Fence} {n : Nat} {P : Program} {fn : Func} {tmps : Array Value} {v : Value} {base : Nat} {w0 : World} (hb : w0.heap.size ≤ base) (hr : ∀ W, (results fn tmps).run P W = .ok v W) {R : Ending → World → Prop} (hR : ∀ W, Ext w0 W → R (.returned v) W) :
    ∀ (ds : List Deferred) (w : World), Ext w0 w → Marks base ds w → LeavesInM F n P fn tmps R ds .returning w
  | [], w, hx, _ => ⟨v, hr w, hR w hx⟩
  | d :: ds, w, hx, hm => by
    obtain ⟨D, h1, h2, h3⟩ := hm.each d (List.mem_cons_self ..)
    refine ⟨by simp, .inl ⟨D, _, h1, run_takeDeferred h3, ?_⟩⟩
    refine leaves_marks hb hr hR ds _ (hx.putObj (Nat.le_trans hb h2) _) ⟨fun d' hd' => ?_, (List.pairwise_cons.1 hm.apart).2⟩
    obtain ⟨D', k1, k2, k3⟩ := hm.each d' (List.mem_cons_of_mem _ hd')
    have hne : D' ≠ D := fun e => (List.pairwise_cons.1 hm.apart).1 d' hd' D h1 (by rw [k1, e])
    exact ⟨D', k1, k2, (World.putObj_heap_other hne).trans k3⟩
theorem Num.recs {w w' : World} {b N : Nat} {S : Nat → Prop} (h : Num w b N S) (hg : w.grownBy w' (some b)) : KeepsRec w w' := by
  obtain ⟨D, ⟨es, clock, k1, _⟩, _⟩ := h
  exact KeepsRec.of_row hg k1 rfl
/-- Inside a round of fits: what stands while the states that follow come. -/
structure FJ (w : World) (cs : Array Value) (nm mb rr n : Nat) (S left T : Nat → Prop) (cnt : Nat) (es : List Deferred) (bL bC : Nat) (sl : Value) (c : UInt8) (pre : List Nat) (W : World) : Prop where
  num : Num W nm n (fun j => T j ∨ j ∈ pre)
  rg : NumR W mb rr n S left cnt
  ext : Ext w W
  box : Blk W w.heap.size 110 cs
  nxt : Blk W (nm + 1) 182 #[.map (some nm)]
  marks : Marks w.heap.size es W
  bl : Blk W bL 108 #[sl]
  bc : Blk W bC 5 #[.int .u8 c.toNat]
section
variable {w : World} {cs : Array Value} {nm mb rr n : Nat} {S left T : Nat → Prop} {cnt : Nat} {es : List Deferred} {bL bC : Nat} {sl : Value} {c : UInt8} {pre : List Nat} {W W' : World}
theorem FJ.into (h : FJ w cs nm mb rr n S left T cnt es bL bC sl c pre W) (hx : Ext W W') : FJ w cs nm mb rr n S left T cnt es bL bC sl c pre W' :=
  ⟨h.num.ext hx, h.rg.ext hx, h.ext.trans hx, Blk.ext hx h.box, Blk.ext hx h.nxt, h.marks.keep hx.keeps, Blk.ext hx h.bl, Blk.ext hx h.bc⟩
theorem FJ.turn (h : FJ w cs nm mb rr n S left T cnt es bL bC sl c pre W) {B : Nat} (hB : w.heap.size ≤ B) (h0 : w.heap.size < B) (h1 : nm + 1 < B) (h2 : mb < B) (h3 : rr < B) (h4 : bL < B) (h5 : bC < B) (he : ∀ d ∈ es, ∀ D, d.target = .collected D → D < B) {row : Option Nat} (hg : W.grownBy W' row)
    (hr : ∀ r, row = some r → B ≤ r) : FJ w cs nm mb rr n S left T cnt es bL bC sl c pre W' := by
  have key : ∀ b, b < B → some b ≠ row := fun b hb e => by have := hr b e.symm; omega
  refine ⟨h.num.kept hg (key _ (by omega)), h.rg.kept hg (key _ h2) (key _ h3), Below.grown h.ext hg h.ext.size_le (fun k e => Nat.le_trans hB (hr k e)), Blk.mk ((hg.block _ h.box.lt (key _ h0)).trans h.box.eq), Blk.mk ((hg.block _ h.nxt.lt (key _ h1)).trans h.nxt.eq),
    ⟨fun d hd => ?_, h.marks.apart⟩, Blk.mk ((hg.block _ h.bl.lt (key _ h4)).trans h.bl.eq), Blk.mk ((hg.block _ h.bc.lt (key _ h5)).trans h.bc.eq)⟩
  obtain ⟨D, k1, k2, k3⟩ := h.marks.each d hd
  exact ⟨D, k1, k2, (hg.block D (Array.getElem?_eq_some_iff.1 k3).1 (key D (he d hd D k1))).trans k3⟩
theorem FJ.put (h : FJ w cs nm mb rr n S left T cnt es bL bC sl c pre W) {x : Nat} (hn : Num W' nm n (fun j => (T j ∨ j ∈ pre) ∨ j = x)) (hg : W.grownBy W' (some nm)) (h0 : w.heap.size < nm) (h2 : mb ≠ nm) (h3 : rr ≠ nm) (h4 : bL ≠ nm) (h5 : bC ≠ nm) : FJ w cs nm mb rr n S left T cnt es bL bC sl c (pre ++ [x]) W' := by
  have key : ∀ b, b ≠ nm → some b ≠ some nm := fun b hb e => hb (Option.some.inj e)
  exact ⟨hn.congr fun j => by rw [List.mem_append, List.mem_singleton]; exact or_assoc, h.rg.kept hg (key _ h2) (key _ h3), Below.grown h.ext hg h.ext.size_le (fun k e => by cases e; omega), Blk.mk ((hg.block _ h.box.lt (key _ (by omega))).trans h.box.eq), Blk.mk ((hg.block _ h.nxt.lt (key _ (by omega))).trans h.nxt.eq),
    h.marks.keptRow hg h.num.what, Blk.mk ((hg.block _ h.bl.lt (key _ h4)).trans h.bl.eq), Blk.mk ((hg.block _ h.bc.lt (key _ h5)).trans h.bc.eq)⟩
theorem FJ.cell (h : FJ w cs nm mb rr n S left T cnt es bL bC sl c pre W) {bI : Nat} (h0 : w.heap.size < bI) (h1 : nm + 1 ≠ bI) (h2 : nm ≠ bI) (h3 : mb ≠ bI) (h4 : rr ≠ bI) (h5 : bL ≠ bI) (h6 : bC ≠ bI) (v : Value) : FJ w cs nm mb rr n S left T cnt es bL bC sl c pre (W.setCell ⟨bI, 0, none⟩ v) := by
  have hk := KeepsOthers.setCell W ⟨bI, 0, none⟩ v
  exact ⟨h.num.setCell h2 v, h.rg.kept (grownBy_setCell' W bI v) (fun e => h3 (Option.some.inj e)) (fun e => h4 (Option.some.inj e)), Ext.setCell (p := ⟨bI, 0, none⟩) h.ext (by show w.heap.size ≤ bI; omega) v, Blk.far (p := ⟨bI, 0, none⟩) h.box (by show w.heap.size ≠ bI; omega) v,
    Blk.far (p := ⟨bI, 0, none⟩) h.nxt h1 v, h.marks.keep hk, Blk.far (p := ⟨bI, 0, none⟩) h.bl h5 v, Blk.far (p := ⟨bI, 0, none⟩) h.bc h6 v⟩
end
section
variable {w : World} {ops : Array Oper} {rest : List Oper} {o : Oper} {a : Act} {Q : Exit → Act → World → Prop}
theorem wp_ins_num (hg : o.guard = none) (m x v : Operand) (hop : o.op = Op.insert 182 m x v) (b N : Nat) (S : Nat → Prop) (hm : a.eval m = .map (some b)) (h : Num w b N S) (hN : N < 1000000)
    (z : Int) (k : Nat) (hz : z = k) (hk : k ≤ N) (hx : a.eval x = .int .i64 z) (hv : a.eval v = .bool true)
    (hK : ∀ w', Num w' b N (fun i => S i ∨ i = k) → w.grownBy w' (some b) → wpList Tryz.prog ops Q rest (a.put o.dst undef) w') : wpList Tryz.prog ops Q (o :: rest) a w := by
  subst hz
  refine wpList_plain hg fun K' hK' => ?_
  obtain ⟨w', hrun, r1, r2⟩ := h.store hN hk
  unfold Oper.wp
  simp [execOp, hop, hm, hx, hv, hrun, Result.andThen]
  exact hK' _ _ (hK w' r1 r2)
end
end Go.Proofs.YtnjcifppkijanaaGreatDoor
namespace Go.Proofs.YtnjcifppkijanaaGreatDoor
open Go Go.RowKit Go.Shelf
attribute [local go_sem] Oper.semAt_some

set_option maxHeartbeats 16000000 in
set_option maxRecDepth 100000 in
theorem fits_in (any : Bool) (A : Option Addr) (n cp : Nat) (l : List Gl.El) (s : ByteArray) (w : World) {F : Nat → Prop} (h : Els w F A l) (hn : l.length = n) (hb : n ≤ 1000) (hs : s.size ≤ 1000000) :
    CallsIn Fence.wide 9 Tryz.prog 159 #[.agg #[.bool any, .slice A n cp], .string s] w (fun e w' => e = .returned (.bool (Gl.fitE l s.data.toList)) ∧ Ext w w') := by
  have HL := Lib.hid h
  have HN := Lib.hid hn
  clear h hn
  have hmm := @run_makeMap Tryz.prog
  refine callsIn_of_wp_marks Tryz.func159 rfl trivial (wpIn_wide.2 ?_) rfl
  simp only [Tryz.ntmps159, List.size_toArray, List.length_cons, List.length_nil, Nat.reduceAdd, Nat.reduceSub, Array.replicate_succ, Array.replicate_zero, List.push_toArray, List.append_toArray, List.nil_append, List.cons_append]
  have hm0 := Num.made (w.alloc (.cells #[.bool any, .slice A n cp] 110)) n
  have e1 : (w.alloc (.cells #[.bool any, .slice A n cp] 110)).heap.size = w.heap.size + 1 := by simp
  rw [e1] at hm0
  have HM := Lib.hid hm0
  clear hm0 e1
  go_wp2_with (refine wp_ins_num rfl _ _ _ rfl (w.heap.size + 1) n (fun _ => False) rfl HM.out (by omega) 0 0 rfl (Nat.zero_le _) rfl rfl ?_; intro w1 hnum hgrow)
  have HX1 : Hid (Ext w w1) := Lib.hid (Below.grown (((Ext.refl w).alloc _).alloc _) hgrow (by simp; omega) (fun b e => by cases e; omega))
  have HB1 : Hid (Blk w1 w.heap.size 110 #[.bool any, .slice A n cp]) := Lib.hid (Blk.mk ((hgrow.block w.heap.size (by simp; omega) (by simp)).trans (Blk.alloc (Blk.new' rfl) _).eq))
  have HNU : Hid (Num w1 (w.heap.size + 1) n fun i => i = 0) := Lib.hid (hnum.congr fun i => by simp)
  have HA0 : Hid (Gl.Any elf l (fun i => i = 0) (s.data.toList.drop 0) ↔ Gl.fitE l s.data.toList = true) := Lib.hid (by rw [List.drop_zero]; exact (Gl.Any.start l s.data.toList).symm)
  clear hnum hgrow HM
  refine wp_loop (fun a' wr => ∃ (u0 u3 u4 u6 u7 u8 u9 u10 u11 u12 u13 u16 u17 u18 u19 u20 u21 u22 u23 u24 u25 u26 u27 u28 u29 u30 u31 u32 u33 u34 u35 u36 u37 u38 u39 u40 u41 u42 u43 u44 u45 u46 : Value) (ds : List Deferred) (k mb : Nat), (∃ S : Nat → Prop, k ≤ s.size ∧ Hid (Num wr mb n S) ∧ Hid (Gl.Any elf l S (s.data.toList.drop k) ↔ Gl.fitE l s.data.toList = true) ∧ Hid (Ext w wr) ∧ Hid (Blk wr w.heap.size 110 #[.bool any, .slice A n cp]) ∧ Hid (Marks w.heap.size ds wr) ∧ Hid (w.heap.size < mb)) ∧ a' = { tmps := #[u0, .string s, .pointer (some ⟨w.heap.size, 0, none⟩), u3, u4, .map (some mb), u6, u7, u8, u9, u10, u11, u12, u13, .int .i64 s.size, .int .i64 k, u16, u17, u18, u19, u20, u21, u22, u23, u24, u25, u26, u27, u28, u29, u30, u31, u32, u33, u34, u35, u36, u37, u38, u39, u40, u41, u42, u43, u44, u45, u46], defers := ds }) (fun a' _ => s.size - (intOf (a'.tmps.getD 15 undef)).toNat) ?_ ?_
  focus
    (repeat apply Exists.intro)
    refine ⟨⟨fun i => i = 0, Nat.zero_le _, HNU, HA0, HX1, HB1, Lib.hid (Marks.nil _ _), Lib.hid (by omega)⟩, rfl⟩
  rintro _ wo ⟨u0, u3, u4, u6, u7, u8, u9, u10, u11, u12, u13, u16, u17, u18, u19, u20, u21, u22, u23, u24, u25, u26, u27, u28, u29, u30, u31, u32, u33, u34, u35, u36, u37, u38, u39, u40, u41, u42, u43, u44, u45, u46, ds, k, mb, ⟨S, hk, HNM, HAN, HX, HB, HMK, HMB⟩, rfl⟩
  dsimp only
  by_cases hlt : k < s.size
  focus
    have hxa : Ext wo ((wo.alloc (.map #[] 0)).alloc (.cells #[.map (some wo.heap.size)] 182)) := ((Ext.refl wo).alloc _).alloc _
    have HN1 := Lib.hid (HNM.out.ext hxa)
    have HX2 := Lib.hid (HX.out.trans hxa)
    have HB2 := Lib.hid (Blk.ext hxa HB.out)
    have HM2 := Lib.hid (HMK.out.keep hxa.keeps)
    have HT2 : Hid (Num ((wo.alloc (.map #[] 0)).alloc (.cells #[.map (some wo.heap.size)] 182)) wo.heap.size n fun _ => False) := Lib.hid ((Num.made wo n).ext ((Ext.refl _).alloc _))
    have HK2 : Hid (Blk ((wo.alloc (.map #[] 0)).alloc (.cells #[.map (some wo.heap.size)] 182)) (wo.heap.size + 1) 182 #[.map (some wo.heap.size)]) := Lib.hid (Blk.new' (by simp))
    have hmb : mb < wo.heap.size := HNM.out.lt
    have hwo : w.heap.size ≤ wo.heap.size := HX.out.size_le
    go_wp2_with (at_range; refine wp_range_num rfl _ rfl mb n S rfl HN1.out ?_; intro w2 cnt hrg hg2 hsz2)
    go_frame
    have hx2 : Ext ((wo.alloc (.map #[] 0)).alloc (.cells #[.map (some wo.heap.size)] 182)) w2 := Below.grown (Ext.refl _) hg2 (Nat.le_refl _) (fun b e => by cases e)
    have HRG := Lib.hid hrg
    have HX3 := Lib.hid (HX2.out.trans hx2)
    have HB3 := Lib.hid (Blk.ext hx2 HB2.out)
    have HM3 := Lib.hid (HM2.out.keep hx2.keeps)
    have HT3 := Lib.hid (HT2.out.ext hx2)
    have HK3 := Lib.hid (Blk.ext hx2 HK2.out)
    clear HNM HX HB HMK HN1 HX2 HB2 HM2 HT2 HK2 hxa hg2 hsz2 hx2 hrg
    generalize hrr : ((wo.alloc (.map #[] 0)).alloc (.cells #[.map (some wo.heap.size)] 182)).heap.size = rr at HRG ⊢
    simp only [World.size_alloc] at hrr
    have HRR := Lib.hid hrr
    clear hrr
    have HDR := Lib.hid (drop_get hlt)
    generalize hcc : s[k] = c at HDR
    refine wp_loop (fun a' wr => ∃ (u0 u3 u4 u5 u8 u9 u10 u11 u12 u13 u16 u17 u18 u19 u21 u22 u23 u24 u25 u26 u27 u28 u29 u30 u31 u32 u33 u34 u35 u36 u37 u38 u39 u40 u41 u42 u43 u44 u45 u46 : Value) (es : List Deferred), (∃ (left T : Nat → Prop) (cnt : Nat), Hid (NumR wr mb rr n S left cnt) ∧ Hid (Num wr wo.heap.size n T) ∧ Hid (∀ j, T j ↔ ∃ i, S i ∧ ¬ left i ∧ j ∈ Gl.aft elf l c n i) ∧ Hid (Ext w wr) ∧ Hid (Blk wr w.heap.size 110 #[.bool any, .slice A n cp]) ∧ Hid (Blk wr (wo.heap.size + 1) 182 #[.map (some wo.heap.size)]) ∧ Hid (Marks w.heap.size es wr)) ∧ a' = { tmps := #[u0, .string s, .pointer (some ⟨w.heap.size, 0, none⟩), u3, u4, u5, .int .i64 k, .pointer (some ⟨wo.heap.size + 1, 0, none⟩), u8, u9, u10, u11, u12, u13, .int .i64 s.size, .int .i64 k, u16, u17, u18, u19, .pointer (some ⟨rr, 0, none⟩), u21, u22, u23, u24, u25, u26, u27, u28, u29, u30, u31, u32, u33, u34, u35, u36, u37, u38, u39, u40, u41, u42, u43, u44, u45, u46], defers := es }) (fun _ wr => wr.rangeLeft mb rr) ?_ ?_
    focus
      (repeat apply Exists.intro)
      refine ⟨⟨S, fun _ => False, _, HRG, HT3, Lib.hid (fun j => ⟨fun h => h.elim, fun ⟨i, h1, h2, _⟩ => (h2 h1).elim⟩), HX3, HB3, HK3, HM3⟩, rfl⟩
    clear HRG HT3 HX3 HB3 HK3 HM3
    rintro _ wr ⟨u0, u3, u4, u5, u8, u9, u10, u11, u12, u13, u16, u17, u18, u19, u21, u22, u23, u24, u25, u26, u27, u28, u29, u30, u31, u32, u33, u34, u35, u36, u37, u38, u39, u40, u41, u42, u43, u44, u45, u46, es, ⟨left, T, cnt, HRG, HT, HTA, HX, HB, HK, HMK⟩, rfl⟩
    dsimp only
    have hle := HRG.out.eq
    go_wp2_with (at_next; refine wp_next_num rfl _ rfl mb rr n S left cnt rfl HRG.out ?_ ?_)
    focus
      intro hdone
      have hbx := HK.out.cell
      have HT2 : Hid (Num wr wo.heap.size n (fun j => ∃ i, S i ∧ j ∈ Gl.aft elf l c n i)) := Lib.hid (HT.out.congr fun j => by
        rw [HTA.out j]
        exact ⟨fun ⟨i, h1, _, h2⟩ => ⟨i, h1, h2⟩, fun ⟨i, h1, h2⟩ => ⟨i, h1, hdone i, h2⟩⟩)
      have HAN2 : Hid (Gl.Any elf l (fun j => ∃ i, S i ∧ j ∈ Gl.aft elf l c n i) (s.data.toList.drop (k + 1)) ↔ Gl.fitE l s.data.toList = true) := Lib.hid (by
        rw [← HAN.out, HDR.out, ← HN.out]
        exact (Gl.Any.step fun j => Iff.rfl).symm)
      clear HT HTA HRG HAN
      go_wp2_with fail
      refine ⟨?_, ?_⟩
      focus
        (repeat apply Exists.intro)
        refine ⟨⟨_, hlt, HT2, HAN2, HX, HB, HMK, Lib.hid (by have := HMB.out; omega)⟩, rfl⟩
      simp [intOf]
      omega
    intro i w3 cnt1 hli hSi hrg1 hltc hg3 hsz3 hen
    have hml := hrg1.eq
    have hx3 : Ext w w3 := Below.grown HX.out hg3 HX.out.size_le (fun b e => by cases e; have := HRR.out; omega)
    have HRG1 := Lib.hid hrg1
    have HTW : Hid (Num w3 wo.heap.size n T) := Lib.hid (HT.out.kept hg3 (by have := HRR.out; intro e; cases e; omega))
    have HBW : Hid (Blk w3 w.heap.size 110 #[.bool any, .slice A n cp]) := Lib.hid (Blk.mk ((hg3.block _ HB.out.lt (by have := HRR.out; intro e; cases e; omega)).trans HB.out.eq))
    have HKW : Hid (Blk w3 (wo.heap.size + 1) 182 #[.map (some wo.heap.size)]) := Lib.hid (Blk.mk ((hg3.block _ HK.out.lt (by have := HRR.out; intro e; cases e; omega)).trans HK.out.eq))
    have HMW : Hid (Marks w.heap.size es w3) := Lib.hid (HMK.out.keptRow hg3 (HRG.out.iter))
    have HXW := Lib.hid hx3
    have hin : i ≤ n := HRG1.out.owns.le hSi
    have HC0 : Hid (∀ W', Ext w3 W' → (∀ k, W'.cell? ⟨w.heap.size, k, none⟩ = (#[.bool any, .slice A n cp] : Array Value)[k]?)) := Lib.hid fun W' hW => (Blk.ext hW HBW.out).cell
    clear hrg1 hg3 hsz3 hx3 HRG HT HB HK HMK HX
    go_wp2_with fail
    refine wp_region_ext_tail 6 (by kernel_rfl) (by kernel_rfl) ?_
    simp only [List.take_succ_cons, List.take_zero, List.drop_succ_cons, List.drop_zero]
    repeat (first | go_big_quiet_skip | (go_big_quiet_want; first | (go_big_quiet_op; go_big_quiet_on) | (apply quiet_at; intro W' hW; have q0 := HC0.out W' hW; go_simp; exact rfl; go_big_quiet_on; simp only [Act.put, sA, s0, sS])))
    refine wpQuiet_nil ?_
    intro w4 hx4
    have hw43 : w3.heap.size ≤ w4.heap.size := hx4.size_le
    have hw3 : wo.heap.size + 1 < w3.heap.size := HKW.out.lt
    have hr3 : rr < w3.heap.size := HRG1.out.lt
    go_wp2_with (go_at_call 174; refine (after_any A n cp i c _).mono ?_; rintro e w5 ⟨rfl, rfl⟩)
    have hx5 : Ext w4 (((w4.alloc (.cells #[.slice A n cp] 108)).alloc (.cells #[.int .i64 i] 3)).alloc (.cells #[.int .u8 c.toNat] 5)) := (((Ext.refl w4).alloc _).alloc _).alloc _
    have HJ0 : Hid (FJ w #[.bool any, .slice A n cp] wo.heap.size mb rr n S (fun j => left j ∧ j ≠ i) T cnt1 es w4.heap.size (w4.heap.size + 1 + 1) (.slice A n cp) c [] (((w4.alloc (.cells #[.slice A n cp] 108)).alloc (.cells #[.int .i64 i] 3)).alloc (.cells #[.int .u8 c.toNat] 5))) := Lib.hid
      ⟨((HTW.out.ext hx4).ext hx5).congr fun j => by simp, (HRG1.out.ext hx4).ext hx5, (HXW.out.trans hx4).trans hx5, Blk.ext hx5 (Blk.ext hx4 HBW.out), Blk.ext hx5 (Blk.ext hx4 HKW.out), (HMW.out.keep hx4.keeps).keep hx5.keeps, Blk.alloc (Blk.alloc (Blk.new' rfl) _) _, Blk.new' (by simp)⟩
    have HLT : Hid (∀ d ∈ es, ∀ D, d.target = .collected D → D < w4.heap.size) := Lib.hid fun d hd D e => by
      obtain ⟨D', h1, _, h3⟩ := HMW.out.each d hd
      rw [h1] at e
      cases e
      exact Nat.lt_of_lt_of_le (Array.getElem?_eq_some_iff.1 h3).1 hw43
    have HTA2 : Hid (∀ j, (T j ∨ j ∈ Gl.aft elf l c n i) ↔ ∃ i', S i' ∧ ¬ (left i' ∧ i' ≠ i) ∧ j ∈ Gl.aft elf l c n i') := Lib.hid fun j => by
      rw [HTA.out j]
      constructor
      · rintro (⟨i', h1, h2, h3⟩ | h)
        · exact ⟨i', h1, fun h => h2 h.1, h3⟩
        · exact ⟨i, hSi, fun h => h.2 rfl, h⟩
      · rintro ⟨i', h1, h2, h3⟩
        by_cases e : i' = i
        · subst e
          exact .inr h3
        · exact .inl ⟨i', h1, fun h => h2 ⟨h, e⟩, h3⟩
    have hlto := hle
    have hmb3 : mb < w4.heap.size := by omega
    clear HTW HRG1 HXW HBW HKW HMW HC0 HTA hx4
    refine (wpIn_wide (n := 9)).1 ?_
    refine wpIn_range_K1 (n := 9) 9 (gf := 181) (lb := #[.pointer (some ⟨w4.heap.size + 1, 0, none⟩), .pointer (some ⟨w4.heap.size, 0, none⟩), .pointer (some ⟨w4.heap.size + 1 + 1, 0, none⟩)]) rfl (enters_of Tryz.func181 (by kernel_rfl) rfl) (enc := fun x : Nat => Value.int .i64 x)
      (after1_gives 8 (by omega) w4.heap.size (w4.heap.size + 1) (w4.heap.size + 1 + 1) A n cp i c l HN.out hin (by omega) w HL.out (by omega) (by omega)) (FJ w #[.bool any, .slice A n cp] wo.heap.size mb rr n S (fun j => left j ∧ j ≠ i) T cnt1 es w4.heap.size (w4.heap.size + 1 + 1) (.slice A n cp) c) ?own ?kk ?xx ?ss HJ0.out ?bx ?assign ?body ?done
    case own =>
      intro pre W W' row h hg hr
      have hsz : (((w4.alloc (.cells #[.slice A n cp] 108)).alloc (.cells #[.int .i64 i] 3)).alloc (.cells #[.int .u8 c.toNat] 5)).heap.size = w4.heap.size + 1 + 1 + 1 := by simp
      rw [hsz] at hr
      exact h.turn (B := w4.heap.size + 1 + 1 + 1) (by omega) (by omega) (by omega) (by omega) (by omega) (by omega) (by omega) (fun d hd D e => by have := HLT.out d hd D e; omega) hg (fun r e => (hr r e).1)
    case kk => exact fun pre W h => ⟨h.ext, h.bl, h.bc⟩
    case xx => exact fun pre W W' h hx => h.into hx
    case ss => exact fun pre W v h => h.cell (bI := w4.heap.size + 1) (by omega) (by omega) (by omega) (by omega) (by omega) (by omega) (by omega) v
    case bx => exact Blk.alloc (Blk.new' (by simp)) _
    case assign =>
      intro l' x W K hK
      simp only [List.setIfInBounds_toArray, List.set_cons_succ, List.set_cons_zero] at hK ⊢
      gi_wp2
      exact hK
    case body =>
      rintro l' pre x W ⟨rest, hrest⟩ hJ
      have hx : x ≤ n := by
        have h1 : x ∈ Gl.aft elf l c n i := by rw [← hrest]; simp
        have := (Gl.aft_le h1).1
        rw [HN.out] at this
        exact this
      have hcn := hJ.nxt.cell
      have HJ := Lib.hid hJ
      have HNU := Lib.hid hJ.num
      clear hJ hrest
      simp only [List.setIfInBounds_toArray, List.set_cons_succ, List.set_cons_zero]
      gi_wp2_with (gi_at_mapUpdate; refine wpIn_put_num rfl _ _ _ rfl wo.heap.size n _ rfl HNU.out (by omega) x x rfl hx rfl rfl ?_; intro w6 hnum6 hg6)
      have hq1 := HMB.out
      have hq2 := HRR.out
      refine ⟨HNU.out.recs hg6, HJ.out.put hnum6 hg6 (by omega) (by omega) (by omega) (by omega) (by omega), fun v hv => ?_⟩
      exact (hg6.block _ hv.lt (fun e => by have := Option.some.inj e; omega)).trans hv
    case done =>
      intro D W hD hJ hDK
      have hD2 : w4.heap.size ≤ D := by simp at hD; omega
      have HMM : Hid (Marks w.heap.size ({ target := .collected D, args := #[] } :: es) W) := Lib.hid (hJ.marks.cons (by omega) hDK (fun d hd e => by have := HLT.out d hd D e; omega))
      have HRG5 := Lib.hid hJ.rg
      have HNN5 := Lib.hid hJ.num
      have HX5 := Lib.hid hJ.ext
      have HB5 := Lib.hid hJ.box
      have HK5 := Lib.hid hJ.nxt
      have hml2 := hJ.rg.eq
      clear hJ hDK hD HJ0
      go_wp2_with fail
      refine ⟨?_, ?_⟩
      focus
        (repeat apply Exists.intro)
        refine ⟨⟨_, _, cnt1, HRG5, HNN5, HTA2, HX5, HB5, HK5, HMM⟩, rfl⟩
      rw [hml2, hle]
      exact hltc
  obtain rfl : k = s.size := by omega
  have hkb : decide (((s.size : Nat) : Int) < ((s.size : Nat) : Int)) = false := decide_eq_false (by omega)
  have HRES : Hid (Gl.fitE l s.data.toList = true ↔ ∃ i, S i ∧ Gl.ended l i = true) := Lib.hid (by
    rw [← HAN.out, drop_end (Nat.le_refl _)]
    refine Gl.Any.ends.trans ⟨fun ⟨i, h1, _, h2⟩ => ⟨i, h1, h2⟩, fun ⟨i, h1, h2⟩ => ⟨i, h1, ?_, h2⟩⟩
    rw [HN.out]
    exact HNM.out.le h1)
  have hmb : mb < wo.heap.size := HNM.out.lt
  go_wp2_with (at_range; refine wp_range_num rfl _ rfl mb n S rfl HNM.out ?_; intro w2 cnt hrg hg2 hsz2)
  go_frame
  have hx2 : Ext wo w2 := Below.grown (Ext.refl _) hg2 (Nat.le_refl _) (fun b e => by cases e)
  have HRG := Lib.hid hrg
  have HX3 := Lib.hid (HX.out.trans hx2)
  have HB3 := Lib.hid (Blk.ext hx2 HB.out)
  have HM3 := Lib.hid (HMK.out.keep hx2.keeps)
  have hwo : w.heap.size ≤ wo.heap.size := HX.out.size_le
  clear HNM HX HB HMK hg2 hsz2 hx2 hrg HAN
  have hwo2 : w.heap.size < wo.heap.size := by have := HMB.out; omega
  generalize wo.heap.size = rr at HRG hmb hwo hwo2 ⊢
  go_loopw [10] (fun _ wr => ∃ (left : Nat → Prop) (cnt : Nat), Hid (NumR wr mb rr n S left cnt) ∧ Hid (∀ i, S i → ¬ left i → Gl.ended l i = false) ∧ Hid (Ext w wr) ∧ Hid (Blk wr w.heap.size 110 #[.bool any, .slice A n cp]) ∧ Hid (Marks w.heap.size ds wr)) (fun _ wr => wr.rangeLeft mb rr)
  case atStart => exact ⟨S, cnt, HRG, Lib.hid (fun i h1 h2 => (h2 h1).elim), HX3, HB3, HM3⟩
  case round =>
    clear HRG HX3 HB3 HM3
    obtain ⟨left, cnt, HRG, HNO, HX, HB, HMK⟩ := hrel
    have hle := HRG.out.eq
    go_wp2_with (at_next; refine wp_next_num rfl _ rfl mb rr n S left cnt rfl HRG.out ?_ ?_)
    focus
      intro hdone
      have hv : Gl.fitE l s.data.toList = false := by
        cases hq : Gl.fitE l s.data.toList with
        | false => rfl
        | true =>
          obtain ⟨i, h1, h2⟩ := HRES.out.1 hq
          rw [HNO.out i h1 (hdone i)] at h2
          cases h2
      clear HRG HNO HRES
      go_wp2_with fail
      exact leaves_marks (v := .bool false) (Nat.le_refl _) (fun W => by simp only [results, Tryz.results159]; go_simp) (fun W hW => ⟨by rw [hv], hW⟩) ds wr HX.out HMK.out
    intro i w3 cnt1 hli hSi hrg1 hltc hg3 hsz3 hen
    have hml := hrg1.eq
    have HX3 := Lib.hid (show Ext w w3 from Below.grown HX.out hg3 HX.out.size_le (fun b e => by cases e; omega))
    have HRG1 := Lib.hid hrg1
    have HBW : Hid (Blk w3 w.heap.size 110 #[.bool any, .slice A n cp]) := Lib.hid (Blk.mk ((hg3.block _ HB.out.lt (fun e => by have := Option.some.inj e; have := hwo2; omega)).trans HB.out.eq))
    have HMW : Hid (Marks w.heap.size ds w3) := Lib.hid (HMK.out.keptRow hg3 (HRG.out.iter))
    have hin : i ≤ n := HRG1.out.owns.le hSi
    have hcb := HBW.out.cell
    clear hrg1 hg3 hsz3 HRG HB HMK HX
    go_wp2_with fail
    refine (ended_any A n cp i l w3 (Sls.ext Elt.steadfast HL.out HX3.out) HN.out hin (by omega)).mono ?_
    rintro e w4 ⟨rfl, hx4⟩
    have HX4 := Lib.hid (HX3.out.trans hx4)
    have HM4 := Lib.hid (HMW.out.keep hx4.keeps)
    have HB4 := Lib.hid (Blk.ext hx4 HBW.out)
    have HRG4 := Lib.hid (HRG1.out.ext hx4)
    have hml4 := HRG4.out.eq
    clear HX3 HMW HBW HRG1 hx4 hcb
    cases hen2 : Gl.ended l i with
    | true =>
      have hv : Gl.fitE l s.data.toList = true := HRES.out.2 ⟨i, hSi, hen2⟩
      clear HNO HRES hen2
      go_wp2_with fail
      exact leaves_marks (v := .bool true) (Nat.le_refl _) (fun W => by simp only [results, Tryz.results159]; go_simp) (fun W hW => ⟨by rw [hv], hW⟩) ds w4 HX4.out HM4.out
    | false =>
      have HNO2 : Hid (∀ i', S i' → ¬ (left i' ∧ i' ≠ i) → Gl.ended l i' = false) := Lib.hid fun i' h1 h2 => by
        by_cases e : i' = i
        · rw [e]
          exact hen2
        · exact HNO.out i' h1 fun h => h2 ⟨h, e⟩
      clear HNO HRES hen2
      go_wp2_with fail
      go_roundw
      case rel => exact ⟨_, cnt1, HRG4, HNO2, HX4, HB4, HM4⟩
      case measure => rw [hml4, hle]; exact hltc
theorem fits_any (any : Bool) (A : Option Addr) (n cp : Nat) (l : List Gl.El) (s : ByteArray) (w : World) {F : Nat → Prop} (h : Els w F A l) (hn : l.length = n) (hb : n ≤ 1000) (hs : s.size ≤ 1000000) :
    Calls Tryz.prog 159 #[.agg #[.bool any, .slice A n cp], .string s] w (Ret (.bool (Gl.fitE l s.data.toList)) w) :=
  (callsIn_wide.1 (fits_in any A n cp l s w h hn hb hs)).mono fun e w' ⟨he, hx⟩ => ⟨he, hx⟩
end Go.Proofs.YtnjcifppkijanaaGreatDoor
