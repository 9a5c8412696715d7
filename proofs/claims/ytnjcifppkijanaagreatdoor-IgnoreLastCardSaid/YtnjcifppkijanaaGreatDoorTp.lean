/- Plain trees in plain Lean: order, the places of paths, valid trees, moves. No program. -/
import Derived.Test.YtnjcifppkijanaaGreatDoorTm
import Derived.Test.YtnjcifppkijanaaGreatDoorPa
import Derived.Test.YtnjcifppkijanaaGreatDoorPc
set_option linter.unusedSimpArgs false
set_option linter.unusedVariables false
namespace Go.Proofs.YtnjcifppkijanaaGreatDoor
open Go Go.Proofs.YtnjcifppkijanaaGreatDoor.Pa
namespace Tr

theorem less_list : ∀ x y : List UInt8, Op.bytesLess x y = decide (x < y)
  | [], [] => by simp [Op.bytesLess]
  | _ :: _, [] => by simp [Op.bytesLess]
  | [], _ :: _ => by simp [Op.bytesLess]
  | a :: x, b :: y => by
    rw [Op.bytesLess, less_list x y]
    simp only [List.cons_lt_cons_iff]
    by_cases h1 : a < b <;> by_cases h2 : a = b <;> by_cases h3 : x < y <;> simp [h1, h2, h3]
theorem lt_iff {s t : ByteArray} : lt s t = true ↔ L s < L t := by
  unfold lt
  rw [less_list, ByteArray.toList_eq, ByteArray.toList_eq, decide_eq_true_eq]
theorem lt_irrefl (s : ByteArray) : lt s s = false := by
  cases h : lt s s
  · rfl
  · exact (List.lt_irrefl _ (lt_iff.1 h)).elim
theorem lt_trans {r s t : ByteArray} (h : lt r s = true) (k : lt s t = true) : lt r t = true := lt_iff.2 (List.lt_trans (lt_iff.1 h) (lt_iff.1 k))
theorem lt_asymm {s t : ByteArray} (h : lt s t = true) : lt t s = false := by
  cases k : lt t s
  · rfl
  · have := lt_trans h k
    rw [lt_irrefl] at this
    cases this
theorem lt_ne {s t : ByteArray} (h : lt s t = true) : s ≠ t := fun e => by
  subst e
  rw [lt_irrefl] at h
  cases h
theorem lt_or (s t : ByteArray) : lt s t = true ∨ s = t ∨ lt t s = true := by
  rcases Std.lt_trichotomy (L s) (L t) with h | h | h
  · exact .inl (lt_iff.2 h)
  · exact .inr (.inl (L_inj h))
  · exact .inr (.inr (lt_iff.2 h))
theorem lt_of {s t : ByteArray} (h : lt t s = false) (k : s ≠ t) : lt s t = true := by
  rcases lt_or s t with h1 | h1 | h1
  · exact h1
  · exact (k h1).elim
  · rw [h] at h1; cases h1
theorem eqB_ne {s t : ByteArray} : Qm.eqB s t = false ↔ s ≠ t := by
  rw [← Bool.not_eq_true]
  exact not_congr Qm.eqB_iff

/-- Ascending paths. -/
def Srt (t : List Pf) : Prop := t.Pairwise fun f g => lt f.path g.path = true
theorem Srt.nil : Srt [] := List.Pairwise.nil
theorem Srt.tail {f : Pf} {t : List Pf} (h : Srt (f :: t)) : Srt t := (List.pairwise_cons.1 h).2
theorem Srt.head {f : Pf} {t : List Pf} (h : Srt (f :: t)) {g : Pf} (hg : g ∈ t) : lt f.path g.path = true := (List.pairwise_cons.1 h).1 g hg
theorem Srt.uniq {t : List Pf} (h : Srt t) {f g : Pf} (hf : f ∈ t) (hg : g ∈ t) (e : f.path = g.path) : f = g := by
  induction t with
  | nil => cases hf
  | cons x t ih =>
    rcases List.mem_cons.1 hf with rfl | hf'
    · rcases List.mem_cons.1 hg with rfl | hg'
      · rfl
      · exact (lt_ne (h.head hg') e).elim
    · rcases List.mem_cons.1 hg with rfl | hg'
      · exact (lt_ne (h.head hf') e.symm).elim
      · exact ih h.tail hf' hg'
theorem Srt.ext {a b : List Pf} (ha : Srt a) (hb : Srt b) (h : ∀ f, f ∈ a ↔ f ∈ b) : a = b := by
  induction a generalizing b with
  | nil =>
    cases b with
    | nil => rfl
    | cons g b => exact absurd ((h g).2 (List.mem_cons_self ..)) (by simp)
  | cons f a ih =>
    cases b with
    | nil => exact absurd ((h f).1 (List.mem_cons_self ..)) (by simp)
    | cons g b =>
      have hfg : f = g := by
        rcases List.mem_cons.1 ((h f).1 (List.mem_cons_self ..)) with e | hf
        · exact e
        · rcases List.mem_cons.1 ((h g).2 (List.mem_cons_self ..)) with e | hg
          · exact e.symm
          · have h1 := ha.head hg
            have h2 := hb.head hf
            rw [lt_asymm h1] at h2
            cases h2
      subst hfg
      congr 1
      refine ih ha.tail hb.tail fun x => ⟨fun hx => ?_, fun hx => ?_⟩
      · rcases List.mem_cons.1 ((h x).1 (List.mem_cons_of_mem _ hx)) with rfl | hx'
        · exact (lt_ne (ha.head hx) rfl).elim
        · exact hx'
      · rcases List.mem_cons.1 ((h x).2 (List.mem_cons_of_mem _ hx)) with rfl | hx'
        · exact (lt_ne (hb.head hx) rfl).elim
        · exact hx'
theorem Srt.filter {t : List Pf} (h : Srt t) (p : Pf → Bool) : Srt (t.filter p) := List.Pairwise.filter p h
theorem Srt.find {t : List Pf} (h : Srt t) {f : Pf} {s : ByteArray} : Tr.find t s = some f ↔ f ∈ t ∧ f.path = s := by
  constructor
  · intro k
    exact ⟨List.mem_of_find?_eq_some k, Qm.eqB_iff.1 (by simpa using List.find?_some k)⟩
  · rintro ⟨k, e⟩
    cases hf : Tr.find t s with
    | none =>
      have := Tr.find_none_iff.1 hf f k
      rw [Qm.eqB_iff.2 e] at this
      cases this
    | some g =>
      have hg : g ∈ t ∧ g.path = s := ⟨List.mem_of_find?_eq_some hf, Qm.eqB_iff.1 (by simpa using List.find?_some hf)⟩
      rw [h.uniq hg.1 k (hg.2.trans e.symm)]
/-- Paths that are all different. -/
def Dst (t : List Pf) : Prop := t.Pairwise fun f g => f.path ≠ g.path
theorem Srt.dst {t : List Pf} (h : Srt t) : Dst t := List.Pairwise.imp (fun h => lt_ne h) h
/-- A directory with path s, or the root. -/
theorem isDir_iff {t : List Pf} {s : ByteArray} : isDir t s = true ↔ s = ⟨#[]⟩ ∨ ∃ g ∈ t, g.ty = 4 ∧ g.path = s := by
  unfold isDir
  rw [Bool.or_eq_true, Qm.eqB_iff, List.any_eq_true]
  simp only [Bool.and_eq_true, beq_iff_eq, Qm.eqB_iff]
theorem isDir_append {a b : List Pf} {s : ByteArray} (h : isDir a s = true) : isDir (a ++ b) s = true := by
  rw [isDir_iff] at h ⊢
  rcases h with h | ⟨g, hg, h1, h2⟩
  · exact .inl h
  · exact .inr ⟨g, List.mem_append_left _ hg, h1, h2⟩

/-- The parent of a path. -/
theorem parent_cases (s : ByteArray) : (47 ∉ L s ∧ parent s = ⟨#[]⟩) ∨ ∃ name, 47 ∉ name ∧ L s = L (parent s) ++ 47 :: name := by
  unfold parent
  rcases last_slash s with ⟨h0, hn⟩ | ⟨i, name, hi, hlt, hs, hn, hd⟩
  · left
    refine ⟨hn, ?_⟩
    rw [show (Lib.lastIndexByte s 47).toNat = 0 by omega]
    apply L_inj
    rw [L_extract]
    rfl
  · right
    refine ⟨name, hn, ?_⟩
    rw [hi, Int.toNat_natCast, L_extract, List.drop_zero]
    exact hs
theorem lt_prefix {s t : ByteArray} {c : UInt8} {e : List UInt8} (h : L t = L s ++ c :: e) : lt s t = true := by
  rw [lt_iff, h]
  generalize L s = l
  induction l with
  | nil => exact List.nil_lt_cons _ _
  | cons x l ih => exact List.cons_lt_cons_self.2 ih
theorem parent_lt {s : ByteArray} (h : s ≠ ⟨#[]⟩) : lt (parent s) s = true := by
  rcases parent_cases s with ⟨_, h1⟩ | ⟨name, _, h1⟩
  · rw [h1]
    have : L s ≠ [] := fun e => h (L_inj (by rw [e]))
    obtain ⟨c, e, he⟩ := List.exists_cons_of_ne_nil this
    exact lt_prefix (c := c) (e := e) (by rw [he]; rfl)
  · exact lt_prefix h1

/-- A valid tree. -/
structure Good (t : List Pf) : Prop where
  len : t.length ≤ 200
  el : ∀ f ∈ t, element f = 0
  srt : Srt t
  dirs : ∀ f ∈ t, isDir t (parent f.path) = true

theorem wrong_iff {l : List Pf} (h : Srt l) {f : Pf} : wrong l f = false ↔ Srt (l ++ [f]) := by
  unfold Srt
  rw [List.pairwise_append]
  unfold wrong
  rcases List.eq_nil_or_concat l with rfl | ⟨r, g, rfl⟩
  · simp
  · rw [List.concat_eq_append] at h ⊢
    rw [List.getLast?_append]
    simp only [List.getLast?_singleton, Option.some_or]
    constructor
    · intro h1
      rw [Bool.or_eq_false_iff] at h1
      have h2 : lt g.path f.path = true := lt_of h1.1 (fun e => eqB_ne.1 h1.2 e.symm)
      refine ⟨h, List.pairwise_singleton .., fun a ha b hb => ?_⟩
      rw [List.mem_singleton] at hb
      subst hb
      rcases List.mem_append.1 ha with ha | ha
      · exact lt_trans ((List.pairwise_append.1 h).2.2 a ha g (by simp)) h2
      · rw [List.mem_singleton] at ha
        rw [ha]
        exact h2
    · rintro ⟨_, _, h1⟩
      have h2 := h1 g (by simp) f (by simp)
      rw [Bool.or_eq_false_iff]
      exact ⟨lt_asymm h2, eqB_ne.2 (fun e => lt_ne h2 e.symm)⟩
theorem checkFrom_iff : ∀ {l pre : List Pf}, Srt pre → (checkFrom pre l = 0 ↔ (∀ f ∈ l, element f = 0) ∧ Srt (pre ++ l) ∧ ∀ a f b, l = a ++ f :: b → isDir (pre ++ a) (parent f.path) = true)
  | [], pre, h => by simp [checkFrom, h]
  | f :: r, pre, h => by
    unfold checkFrom
    have hs : Srt (pre ++ f :: r) → Srt (pre ++ [f]) := fun k => by
      have : pre ++ f :: r = (pre ++ [f]) ++ r := by simp
      rw [this] at k
      exact (List.pairwise_append.1 k).1
    by_cases h1 : element f = 0
    · rw [if_neg (by simpa using h1)]
      cases h2 : wrong pre f
      · rw [if_neg (by simp)]
        have h2' := (wrong_iff h).1 h2
        cases h3 : isDir pre (parent f.path)
        · rw [if_pos rfl]
          constructor
          · intro k; cases k
          · rintro ⟨_, _, k⟩
            have := k [] f r rfl
            rw [List.append_nil, h3] at this
            cases this
        · rw [if_neg (by simp), checkFrom_iff h2']
          constructor
          · rintro ⟨k1, k2, k3⟩
            refine ⟨fun g hg => ?_, by simpa using k2, fun a g b e => ?_⟩
            · rcases List.mem_cons.1 hg with rfl | hg
              · exact h1
              · exact k1 g hg
            · cases a with
              | nil =>
                simp only [List.nil_append, List.cons.injEq] at e
                rw [← e.1, List.append_nil]
                exact h3
              | cons x a =>
                simp only [List.cons_append, List.cons.injEq] at e
                have := k3 a g b e.2
                rw [← e.1]
                simpa using this
          · rintro ⟨k1, k2, k3⟩
            refine ⟨fun g hg => k1 g (List.mem_cons_of_mem _ hg), by simpa using k2, fun a g b e => ?_⟩
            have := k3 (f :: a) g b (by rw [e]; rfl)
            simpa using this
      · rw [if_pos rfl]
        constructor
        · intro k; cases k
        · rintro ⟨_, k, _⟩
          rw [(wrong_iff h).2 (hs k)] at h2
          cases h2
    · rw [if_pos h1]
      constructor
      · intro k; exact (h1 k).elim
      · rintro ⟨k, _⟩
        exact (h1 (k f (List.mem_cons_self ..))).elim
/-- Paths that are valid are not empty. -/
theorem isPath_ne {s : ByteArray} (h : Qm.isPath s = true) : s ≠ ⟨#[]⟩ := by
  rintro rfl
  have : Qm.isPath ⟨#[]⟩ = false := by kernel_rfl
  rw [this] at h
  cases h
theorem element_path {f : Pf} (h : element f = 0) : Qm.isPath f.path = true := by
  unfold element at h
  cases hp : Qm.isPath f.path
  · rw [if_pos hp] at h; cases h
  · rfl
theorem good_iff {t : List Pf} : checkTree t = 0 ↔ Good t := by
  unfold checkTree
  constructor
  · intro h
    have hl : ¬ 200 < t.length := fun k => by rw [if_pos k] at h; cases h
    rw [if_neg hl, checkFrom_iff Srt.nil] at h
    obtain ⟨h1, h2, h3⟩ := h
    refine ⟨by omega, h1, by simpa using h2, fun f hf => ?_⟩
    obtain ⟨a, b, rfl⟩ := List.append_of_mem hf
    have := h3 a f b rfl
    exact isDir_append (by simpa using this)
  · rintro ⟨h1, h2, h3, h4⟩
    rw [if_neg (by omega), checkFrom_iff Srt.nil]
    refine ⟨h2, by simpa using h3, fun a f b e => ?_⟩
    subst e
    rw [List.nil_append]
    have hf : f ∈ a ++ f :: b := by simp
    have := h4 f hf
    rw [isDir_iff] at this ⊢
    rcases this with h | ⟨g, hg, k1, k2⟩
    · exact .inl h
    · refine .inr ⟨g, ?_, k1, k2⟩
      have hlt : lt g.path f.path = true := by rw [k2]; exact parent_lt (isPath_ne (element_path (h2 f hf)))
      rcases List.mem_append.1 hg with hg | hg
      · exact hg
      · have h5 := (List.pairwise_append.1 h3).2.1
        rcases List.mem_cons.1 hg with rfl | hg
        · rw [lt_irrefl] at hlt; cases hlt
        · have := Srt.head h5 hg
          rw [lt_asymm this] at hlt
          cases hlt
/-- Whatever stands above an element is a directory. -/
theorem Good.above {t : List Pf} (h : Good t) : ∀ (n : Nat) (u s : ByteArray), u.size ≤ n → isDir t (parent u) = true → s ≠ ⟨#[]⟩ → sw (L u) (L s) → ∃ g ∈ t, g.ty = 4 ∧ g.path = s
  | 0, u, s, hn, _, hs, hw => by
    obtain ⟨e, h0, _, he⟩ := hw
    have h1 := congrArg List.length he
    rw [List.length_append] at h1
    have h2 : e.length ≠ 0 := fun k => h0 (List.length_eq_zero_iff.1 k)
    have h3 : (L u).length = u.size := rfl
    omega
  | n + 1, u, s, hn, hd, hs, hw => by
    rcases parent_cases u with ⟨h1, _⟩ | ⟨name, h1, h2⟩
    · exact (h1 (sw_slash hw)).elim
    · rw [h2] at hw
      obtain ⟨c, hc, hp, _⟩ := sw_par h1 hw
      by_cases h0 : c = []
      · rw [h0, List.append_nil] at hp
        have hp' := L_inj hp
        rw [hp'] at hd
        rcases isDir_iff.1 hd with k | k
        · exact (hs k).elim
        · exact k
      · have hps : parent u ≠ ⟨#[]⟩ := fun k => by
          rw [k] at hp
          have := congrArg List.length hp
          rw [List.length_append] at this
          have h3 : c.length = 0 := by simp [L] at this; omega
          exact h0 (List.length_eq_zero_iff.1 h3)
        rcases isDir_iff.1 hd with k | ⟨g, hg, k1, k2⟩
        · exact (hps k).elim
        · have hsz : (parent u).size ≤ n := by
            have := congrArg List.length h2
            rw [List.length_append] at this
            have h3 : (L u).length = u.size := rfl
            have h4 : (L (parent u)).length = (parent u).size := rfl
            simp only [List.length_cons] at this
            omega
          have := h.dirs g hg
          rw [k2] at this
          exact Good.above h n (parent u) s hsz this hs ⟨c, h0, hc, hp⟩
end Tr
end Go.Proofs.YtnjcifppkijanaaGreatDoor
