/- Structs stored into a row that is owned; an owned row read as a slice. -/
import Derived.Test.YtojfgidoobgcaaaGreatDoorNv
set_option linter.unusedSimpArgs false
set_option linter.unusedVariables false
namespace Go.Proofs.YtojfgidoobgcaaaGreatDoor
open Go Go.RowKit

/-- Every block. -/
abbrev All : Nat → Prop := fun _ => True
theorem Ext.putMany {w : World} {b : Nat} (hb : w.heap.size ≤ b) : ∀ (vs : List Value) (o : Nat) (w' : World), Ext w w' → Ext w (w'.setCells b o vs)
  | [], _, _, h => h
  | v :: vs, o, _, h => Ext.putMany hb vs (o + 1) _ (Ext.setCell (p := ⟨b, o, none⟩) h hb v)
theorem Blk.midSet {g : Nat} {t : TypeId} : ∀ (vs cs pre post : List Value) (w : World), vs.length = cs.length → Blk w g t (pre ++ cs ++ post).toArray → Blk (w.setCells g pre.length vs) g t (pre ++ vs ++ post).toArray
  | [], [], pre, post, w, _, h => h
  | [], _ :: _, _, _, _, e, _ => nomatch e
  | _ :: _, [], _, _, _, e, _ => nomatch e
  | v :: vs, c :: cs, pre, post, w, e, h => by
    have h1 := h.set_ pre.length v
    have e1 : (pre ++ c :: cs ++ post).toArray.setIfInBounds pre.length v = ((pre ++ [v]) ++ cs ++ post).toArray := by simp
    rw [e1] at h1
    have h2 := Blk.midSet vs cs (pre ++ [v]) post _ (by simpa using e) h1
    have e2 : (pre ++ [v]).length = pre.length + 1 := by simp
    rw [e2] at h2
    have e3 : (pre ++ v :: vs ++ post).toArray = ((pre ++ [v]) ++ vs ++ post).toArray := by simp
    rw [e3]
    exact h2
section
variable {α : Type} {k : Nat} {R : Reads α} {t : TypeId} {w0 w w' : World} {base : Nat} {F : Nat → Prop} {v : Value} {l : List α}
theorem OwnW.ext (h : OwnW k R t w0 w base F v l) (hx : Ext w w') : OwnW k R t w0 w' base F v l := by
  obtain ⟨cs, h1, h2, ⟨h3, h5⟩, h4⟩ := h
  refine ⟨cs, h1, h2, ⟨h3, ?_⟩, h4⟩
  rcases h5 with h5 | ⟨g, cap, cur, e, hb, hg, r⟩
  · exact .inl h5
  · exact .inr ⟨g, cap, cur, e, hb, (Below.block hx g (Array.getElem?_eq_some_iff.1 hg).1).trans hg, r⟩
theorem OwnW.later (hR : Steadfast R) (h : OwnW k R t w0 w base F v l) (hx : Ext w0 w') : OwnW k R t w' w base F v l := by
  obtain ⟨cs, h1, h2, h3, h4⟩ := h
  exact ⟨cs, h1, h2, h3, fun i c x hc hl => hR.ext (h4 i c x hc hl) hx⟩
theorem OwnW.has (h : OwnW k R t w0 w base F v l) (hl : 0 < l.length) : ∃ g c cur, v = .slice (some ⟨g, 0, none⟩) l.length c ∧ base ≤ g ∧ g < w.heap.size ∧ l.length ≤ c ∧ Blk w g t cur ∧ l.length * k ≤ cur.size := by
  obtain ⟨cs, h1, h2, ⟨h3, ⟨_, h0⟩ | ⟨g, cap, cur, e, hb, hg, hn, hc, hs, ht⟩⟩, h4⟩ := h
  · omega
  · exact ⟨g, cap, cur, e, hb, (Array.getElem?_eq_some_iff.1 hg).1, hn, Blk.mk hg, by rw [hs]; exact Nat.mul_le_mul_right k hn⟩
/-- The slice as a reader sees it. -/
theorem OwnW.sls (hR : Steadfast R) (h : OwnW k R t w0 w base F v l) (hx : Ext w0 w) : ∃ A c, v = .slice A l.length c ∧ l.length ≤ c ∧ Sls k R w All A l := by
  obtain ⟨cs, h1, h2, ⟨h3, ⟨e, h0⟩ | ⟨g, cap, cur, e, hb, hg, hn, hc, hs, ht⟩⟩, h4⟩ := h
  · obtain rfl := List.length_eq_zero_iff.1 h0
    exact ⟨none, 0, e, Nat.le_refl _, Sls.nil k R w All⟩
  · refine ⟨_, cap, e, hn, cs, h1, h2, fun _ => ⟨g, 0, rfl, (Array.getElem?_eq_some_iff.1 hg).1, trivial, fun j u hu => ?_⟩, fun i c x hc hl => hR.mono (hR.ext (h4 i c x hc hl) hx) (fun _ _ => trivial)⟩
    have hB : Blk w g t cur := Blk.mk hg
    have hj : j < l.length * k := by
      have := (List.getElem?_eq_some_iff.1 hu).1
      rwa [h3] at this
    rw [Nat.zero_add, hB.cell, ← hu, ← ht, List.getElem?_take_of_lt hj, Array.getElem?_toList]
/-- One struct stored. -/
theorem OwnW.put {g n cap : Nat} (h : OwnW k R t w0 w base F (.slice (some ⟨g, 0, none⟩) n cap) l) {i : Nat} (hi : i < l.length) {c : List Value} {x : α} (hc : c.length = k) (hx : R w0 F c x) :
    OwnW k R t w0 (w.setCells g (i * k) c) base F (.slice (some ⟨g, 0, none⟩) n cap) (l.set i x) := by
  obtain ⟨cs, h1, h2, ⟨h3, ⟨e, _⟩ | ⟨g', cap', cur, e, hb, hg, hn, hcm, hs, ht⟩⟩, h4⟩ := h
  · cases e
  · simp only [Value.slice.injEq, Option.some.injEq, Addr.mk.injEq, and_true, true_and] at e
    obtain ⟨rfl, rfl, rfl⟩ := e
    have hic : i < cs.length := by omega
    have hpre : (cs.take i).flatten.length = i * k := by
      rw [flatten_len (fun c hc => h2 c (List.mem_of_mem_take hc)), List.length_take]
      congr 1
      omega
    have hsplit : cs.flatten = (cs.take i).flatten ++ cs[i] ++ (cs.drop (i + 1)).flatten := by
      have := congrArg List.flatten (List.take_append_drop i cs).symm
      rwa [List.flatten_append, List.drop_eq_getElem_cons hic, List.flatten_cons, ← List.append_assoc] at this
    have hcur : cur = ((cs.take i).flatten ++ cs[i] ++ ((cs.drop (i + 1)).flatten ++ cur.toList.drop (l.length * k))).toArray := by
      apply Array.toList_inj.1
      conv => lhs; rw [← List.take_append_drop (l.length * k) cur.toList, ht, hsplit]
      simp
    have hk : c.length = cs[i].length := by rw [hc, h2 _ (List.getElem_mem hic)]
    have hB : Blk w g t ((cs.take i).flatten ++ cs[i] ++ ((cs.drop (i + 1)).flatten ++ cur.toList.drop (l.length * k))).toArray := by rw [← hcur]; exact Blk.mk hg
    have hN := Blk.midSet c cs[i] _ _ w hk hB
    rw [hpre] at hN
    have hfl : (cs.set i c).flatten = (cs.take i).flatten ++ c ++ (cs.drop (i + 1)).flatten := by
      rw [List.set_eq_take_append_cons_drop, if_pos hic]
      simp
    have hlen : (cs.set i c).flatten.length = l.length * k := by
      rw [← h3, hfl, hsplit]
      simp [hk]
    refine ⟨cs.set i c, by simp [h1], fun d hd => ?_, ⟨by rw [List.length_set]; exact hlen, .inr ⟨g, cap, _, by rw [List.length_set], hb, hN.eq, by rw [List.length_set]; exact hn, hcm, ?_, ?_⟩⟩, fun j d y hd hy => ?_⟩
    · rcases List.mem_or_eq_of_mem_set hd with hd | rfl
      · exact h2 d hd
      · exact hc
    · rw [← hs]
      conv => rhs; rw [hcur]
      simp [hk]
    · rw [List.length_set, ← List.append_assoc, ← hfl]
      simp only [List.toList_toArray]
      rw [← hlen, List.take_left']
      rfl
    · rcases Nat.decEq i j with hne | rfl
      · rw [List.getElem?_set_ne hne] at hd hy
        exact h4 j d y hd hy
      · rw [List.getElem?_set_self (by omega)] at hd hy
        obtain rfl := Option.some.inj hd
        obtain rfl := Option.some.inj hy
        exact hx
end
/-- A list of reviews that a call returns. -/
structure Revs (w : World) (A : Option Addr) (n c : Nat) (l : List Rv) : Prop where
  len : l.length = n
  cap : n ≤ c
  reads : Rs w All A l
theorem Revs.ext {w w' : World} {A : Option Addr} {n c : Nat} {l : List Rv} (h : Revs w A n c l) (hx : Ext w w') : Revs w' A n c l := ⟨h.len, h.cap, Rs.ext h.reads hx⟩
theorem Revs.nil (w : World) : Revs w none 0 0 [] := ⟨rfl, Nat.le_refl _, Sls.nil 6 Rev w All⟩
theorem OwnW.revs {t : TypeId} {w0 w : World} {base : Nat} {F : Nat → Prop} {v : Value} {l : List Rv} (h : OwnW 6 Rev t w0 w base F v l) (hx : Ext w0 w) : ∃ A n c, v = .slice A n c ∧ Revs w A n c l := by
  obtain ⟨A, c, e, hc, hs⟩ := h.sls Rev.steadfast hx
  exact ⟨A, l.length, c, e, rfl, hc, hs⟩
/-- Reviews and an error. -/
def GivesR (w : World) (R : List Rv × Int) (e : Ending) (w' : World) : Prop := ∃ A n c, e = .returned (.tuple #[.slice A n c, .int .i64 R.2]) ∧ Revs w' A n c R.1 ∧ Ext w w'
/-- What a change of one review leaves. -/
def Changes (g : Nat) (w0 : World) (R : Rv × Int) (e : Ending) (w' : World) : Prop :=
  e = .returned (.int .i64 R.2) ∧ Ext w0 w' ∧ (R.2 = 0 → ∃ cs : List Value, Blk w' g 28 cs.toArray ∧ Rev w' All cs R.1)
end Go.Proofs.YtojfgidoobgcaaaGreatDoor
