/- Plain trees in plain Lean: the law of moves. No program. -/
import Derived.Test.YtdbokolbheileaaGreatDoorTp
set_option linter.unusedSimpArgs false
set_option linter.unusedVariables false
namespace Go.Proofs.YtdbokolbheileaaGreatDoor
open Go Pa
namespace Tr

/-- The parts of a path between slashes. -/
def segs : List UInt8 → List (List UInt8)
  | [] => [[]]
  | c :: r => if c = 47 then [] :: segs r else match segs r with
    | [] => [[c]]
    | x :: xs => (c :: x) :: xs
theorem segs_ne (l : List UInt8) : segs l ≠ [] := by
  cases l with
  | nil => simp [segs]
  | cons c r =>
    unfold segs
    split
    · simp
    · split <;> simp
theorem segs_app (a b : List UInt8) : segs (a ++ 47 :: b) = segs a ++ segs b := by
  induction a with
  | nil => simp [segs]
  | cons c a ih =>
    rw [List.cons_append, segs, segs, ih]
    split
    · rfl
    · cases h : segs a with
      | nil => exact (segs_ne a h).elim
      | cons x xs => rfl
theorem segs_one {a : List UInt8} (h : 47 ∉ a) : segs a = [a] := by
  induction a with
  | nil => rfl
  | cons c a ih =>
    rw [List.mem_cons] at h
    have h1 : c ≠ 47 := fun e => h (.inl e.symm)
    rw [segs, if_neg h1, ih fun k => h (.inr k)]
theorem pieces_segs : ∀ (n : Nat) (s : ByteArray), s.size ≤ n → (pieces s).map L = segs (L s) := by
  intro n
  induction n with
  | zero =>
    intro s hs
    have h0 : L s = [] := List.length_eq_zero_iff.1 (by have : (L s).length = s.size := rfl; omega)
    rw [pieces_miss (indexByte_not fun j => by rw [show s.data.toList = [] from h0]; simp), h0]
    simp [segs, h0]
  | succ n ih =>
    intro s hs
    have hg := Lib.indexByte_ge (L s) 47
    by_cases hm : Lib.indexByte (L s) 47 = -1
    · rw [pieces_miss hm]
      rw [segs_one (fun k => by
        obtain ⟨j, hj⟩ := List.mem_iff_getElem?.1 k
        exact Lib.indexByte_none hm j hj)]
      rfl
    · obtain ⟨o, ho⟩ : ∃ o : Nat, Lib.indexByte (L s) 47 = o := ⟨(Lib.indexByte (L s) 47).toNat, by omega⟩
      obtain ⟨h1, h2⟩ := Lib.indexByte_some ho
      have hlt := (List.getElem?_eq_some_iff.1 h1).1
      have hls : (L s).length = s.size := rfl
      rw [pieces_hit ho, List.map_cons, ih _ (by rw [ByteArray.size_extract]; omega)]
      have e1 : L (s.extract 0 o) = (L s).take o := by rw [L_extract, List.drop_zero]
      have e2 : L (s.extract (o + 1) s.size) = (L s).drop (o + 1) := by rw [L_extract, ← hls, List.take_length]
      rw [e1, e2]
      have e3 : L s = (L s).take o ++ 47 :: (L s).drop (o + 1) := by
        conv => lhs; rw [← List.take_append_drop o (L s), List.drop_eq_getElem_cons hlt]
        rw [(List.getElem?_eq_some_iff.1 h1).2]
      conv => rhs; rw [e3]
      rw [segs_app, segs_one (a := (L s).take o) (fun k => by
        obtain ⟨j, hj⟩ := List.mem_iff_getElem?.1 k
        rw [List.getElem?_take] at hj
        split at hj
        · exact h2 j (by assumption) hj
        · cases hj)]
      rfl
def nameOk (l : List UInt8) : Bool := Qm.isName ⟨l.toArray⟩
theorem nameOk_L (s : ByteArray) : nameOk (L s) = Qm.isName s := by
  unfold nameOk
  congr 1
def okS (l : List UInt8) : Bool := (segs l).all nameOk
theorem isPath_segs (s : ByteArray) : Qm.isPath s = (decide (s.size ≤ 200) && okS (L s)) := by
  rw [isPath_pieces, okS, ← pieces_segs s.size s (Nat.le_refl _), List.all_map]
  congr 2
theorem okS_app (a b : List UInt8) : okS (a ++ 47 :: b) = (okS a && okS b) := by
  unfold okS
  rw [segs_app, List.all_append]
theorem okS_tail {p q e : List UInt8} (h : okS (q ++ e) = true) (k : okS p = true) (he : Tl e) : okS (p ++ e) = true := by
  rcases he with rfl | ⟨t, rfl⟩
  · simpa using k
  · rw [okS_app] at h ⊢
    rw [Bool.and_eq_true] at h
    rw [k, h.2]
    rfl
theorem path_tail {p q s s' : ByteArray} {e : List UInt8} (he : Tl e) (hs : L s = L p ++ e) (hs' : L s' = L q ++ e) (h : Qm.isPath s = true) (k : Qm.isPath q = true) (hz : s'.size ≤ 200) : Qm.isPath s' = true := by
  rw [isPath_segs, Bool.and_eq_true] at h k ⊢
  refine ⟨by simpa using hz, ?_⟩
  rw [hs']
  exact okS_tail (q := L p) (by rw [← hs]; exact h.2) k.2 he

theorem slash_uniq {a b n m : List UInt8} (hn : 47 ∉ n) (hm : 47 ∉ m) (h : a ++ 47 :: n = b ++ 47 :: m) : a = b ∧ n = m := by
  rcases List.append_eq_append_iff.1 h with ⟨c, h1, h2⟩ | ⟨c, h1, h2⟩
  · cases c with
    | nil => simp at h1 h2; exact ⟨h1.symm, h2⟩
    | cons x c =>
      simp only [List.cons_append, List.cons.injEq] at h2
      exact (hn (by rw [h2.2]; simp)).elim
  · cases c with
    | nil => simp at h1 h2; exact ⟨h1, h2.symm⟩
    | cons x c =>
      simp only [List.cons_append, List.cons.injEq] at h2
      exact (hm (by rw [h2.2]; simp)).elim
theorem parent_of {s : ByteArray} {l n : List UInt8} (hn : 47 ∉ n) (h : L s = l ++ 47 :: n) : L (parent s) = l := by
  rcases parent_cases s with ⟨h1, _⟩ | ⟨m, h1, h2⟩
  · exact (h1 (by rw [h]; simp)).elim
  · exact (slash_uniq hn h1 (h.symm.trans h2)).1.symm

theorem shift_eq (p q : ByteArray) (f : Pf) : shift p q f = { f with path := (shift p q f).path } := by
  unfold shift
  split <;> rfl
theorem shift_cases (p q : ByteArray) (f : Pf) : (∃ e, Tl e ∧ L f.path = L p ++ e ∧ L (shift p q f).path = L q ++ e) ∨ (¬ wi (L f.path) (L p) ∧ shift p q f = f) := by
  by_cases h : wi (L f.path) (L p)
  · left
    obtain ⟨e, he, h1⟩ := h
    refine ⟨e, he, h1, ?_⟩
    have hw : Qm.within f.path p = true := Pa.within_iff.2 ⟨e, he, h1⟩
    unfold shift
    rw [if_pos (show (Qm.eqB f.path p || Qm.below f.path p) = true from hw)]
    show L (q ++ f.path.extract p.size f.path.size) = _
    rw [L_append, L_extract]
    congr 1
    have : (L f.path).length = f.path.size := rfl
    rw [← this, List.take_length, h1]
    have : (L p).length = p.size := rfl
    rw [← this, List.drop_left]
  · right
    refine ⟨h, ?_⟩
    have hw : ¬ Qm.within f.path p = true := fun k => h (Pa.within_iff.1 k)
    unfold shift
    rw [if_neg (show ¬ (Qm.eqB f.path p || Qm.below f.path p) = true from hw)]
theorem shift_mv {p q : ByteArray} {f : Pf} {v : List UInt8} (h : Mv (L p) (L q) (L f.path) v) : L (shift p q f).path = v := by
  rcases shift_cases p q f with ⟨e, he, h1, h2⟩ | ⟨h1, h2⟩
  · rw [h2]
    exact Mv.uniq (.inl ⟨e, he, h1, rfl⟩) h
  · rcases h with ⟨e, he, k, _⟩ | ⟨_, _, k⟩
    · exact (h1 ⟨e, he, k⟩).elim
    · rw [h2, k]
theorem shift_back {p q : ByteArray} {f : Pf} (h : Mv (L p) (L q) (L f.path) (L (shift p q f).path)) : shift q p (shift p q f) = f := by
  have h1 := shift_mv (f := shift p q f) h.symm
  rw [shift_eq q p, L_inj h1, shift_eq p q]

theorem room_zero {t : List Pf} {s : ByteArray} (hs : Srt t) : room t s = 0 ↔ (∀ f ∈ t, f.path ≠ s) ∧ isDir t (parent s) = true := by
  unfold room
  rw [isDir_iff]
  constructor
  · intro h
    split at h
    · cases h
    · rename_i h1
      have h1' : Tr.find t s = none := by simpa using h1
      refine ⟨find_none.1 h1', ?_⟩
      split at h
      · rename_i h2
        exact .inl (Qm.eqB_iff.1 h2)
      · right
        split at h
        · cases h
        · rename_i f hf
          split at h
          · exact ⟨f, (hs.find.1 hf).1, by assumption, (hs.find.1 hf).2⟩
          · cases h
  · rintro ⟨h1, h2⟩
    rw [find_none.2 h1, if_neg (by simp)]
    by_cases h3 : parent s = ⟨#[]⟩
    · rw [if_pos (Qm.eqB_iff.2 h3)]
    · rw [if_neg (fun k => h3 (Qm.eqB_iff.1 k))]
      rcases h2 with h2 | ⟨g, hg, k1, k2⟩
      · exact (h3 h2).elim
      · rw [hs.find.2 ⟨hg, k2⟩]
        simp [k1]

/-- What a move that goes through has met. -/
structure Moves (t : List Pf) (p q : ByteArray) : Prop where
  good : Good t
  hp : Qm.isPath p = true
  hq : Qm.isPath q = true
  n1 : ¬ wi (L q) (L p)
  n2 : ¬ wi (L p) (L q)
  is : ∃ d ∈ t, d.path = p
  free : ∀ f ∈ t, f.path ≠ q
  dir : isDir t (parent q) = true
  small : ∀ f ∈ t, (shift p q f).path.size ≤ 200
section
variable {t : List Pf} {p q : ByteArray}
theorem Moves.mv (h : Moves t p q) {f : Pf} (hf : f ∈ t) : Mv (L p) (L q) (L f.path) (L (shift p q f).path) := by
  rcases shift_cases p q f with ⟨e, he, h1, h2⟩ | ⟨h1, h2⟩
  · exact .inl ⟨e, he, h1, h2⟩
  · refine .inr ⟨h1, fun k => ?_, by rw [h2]⟩
    rcases k.eq_or with k | k
    · exact h.free f hf (L_inj k)
    · obtain ⟨g, hg, _, e⟩ := h.good.dir_above hf (isPath_ne h.hq) k
      exact h.free g hg e
theorem Moves.dst (h : Moves t p q) : Dst (t.map (shift p q)) := by
  unfold Dst
  rw [List.pairwise_map]
  refine List.Pairwise.imp_of_mem (fun {f g} hf hg hlt e => ?_) h.good.srt
  have h1 := (h.mv hf).symm
  have h2 := (h.mv hg).symm
  rw [e] at h1
  exact lt_ne hlt (L_inj (h1.uniq h2))
theorem Moves.mem (h : Moves t p q) {g : Pf} : g ∈ sort (t.map (shift p q)) ↔ ∃ f ∈ t, shift p q f = g := by
  rw [sort_mem h.dst, List.mem_map]
theorem Moves.still (h : Moves t p q) {g : Pf} (hg : g ∈ t) (k : ¬ wi (L g.path) (L p)) : g ∈ sort (t.map (shift p q)) := by
  rw [h.mem]
  refine ⟨g, hg, ?_⟩
  rcases shift_cases p q g with ⟨e, he, h1, h2⟩ | ⟨h1, h2⟩
  · exact (k ⟨e, he, h1⟩).elim
  · exact h2
theorem element_at {f : Pf} (h : element f = 0) {s : ByteArray} (k : Qm.isPath s = true) : element { f with path := s } = 0 := by
  have := element_path h
  unfold element at h ⊢
  rw [this] at h
  rw [k]
  exact h
theorem wi_parent {s : ByteArray} {l : List UInt8} (hne : parent s ≠ ⟨#[]⟩) (h : wi (L (parent s)) l) : wi (L s) l := by
  rcases parent_cases s with ⟨_, k⟩ | ⟨name, _, k⟩
  · exact (hne k).elim
  · rw [k]
    exact (wi.mk (.inr ⟨name, rfl⟩)).trans h
theorem Moves.good' (h : Moves t p q) : Good (sort (t.map (shift p q))) := by
  refine ⟨by rw [sort_length h.dst, List.length_map]; exact h.good.len, fun g hg => ?_, sort_srt h.dst, fun g hg => ?_⟩
  · obtain ⟨f, hf, rfl⟩ := h.mem.1 hg
    have he := h.good.el f hf
    rw [shift_eq]
    refine element_at he ?_
    rcases shift_cases p q f with ⟨e, hh, h1, h2⟩ | ⟨h1, h2⟩
    · exact path_tail hh h1 h2 (element_path he) h.hq (h.small f hf)
    · rw [h2]
      exact element_path he
  · obtain ⟨f, hf, rfl⟩ := h.mem.1 hg
    rcases shift_cases p q f with ⟨e, he, h1, h2⟩ | ⟨h1, h2⟩
    · by_cases h0 : e = []
      · have h3 : (shift p q f).path = q := L_inj (by rw [h2, h0, List.append_nil])
        rw [h3]
        have hd := h.dir
        rw [isDir_iff] at hd ⊢
        rcases hd with hd | ⟨g, hg, k1, k2⟩
        · exact .inl hd
        · by_cases hr : parent q = ⟨#[]⟩
          · exact .inl hr
          · refine .inr ⟨g, h.still hg (fun k => ?_), k1, k2⟩
            rw [k2] at k
            exact h.n1 (wi_parent hr k)
      · have hsw : sw (L f.path) (L p) := ⟨e, h0, he, h1⟩
        rcases parent_cases f.path with ⟨k1, _⟩ | ⟨name, hn, k1⟩
        · exact (k1 (sw_slash hsw)).elim
        · rw [k1] at hsw
          obtain ⟨c, hc, hpc, huniq⟩ := sw_par hn hsw
          have he' : e = c ++ 47 :: name := huniq e (by rw [← k1, h1])
          have hpar : L (parent (shift p q f).path) = L q ++ c := parent_of hn (by rw [h2, he', List.append_assoc])
          have hd := h.good.dirs f hf
          rw [isDir_iff] at hd ⊢
          rcases hd with hd | ⟨g, hg, m1, m2⟩
          · rw [hd] at hpc
            have := congrArg List.length hpc
            rw [List.length_append] at this
            have h6 : (L (⟨#[]⟩ : ByteArray)).length = 0 := rfl
            have h5 : (L p).length = 0 := by omega
            exact (isPath_ne h.hp (L_inj (by rw [List.length_eq_zero_iff.1 h5]))).elim
          · refine .inr ⟨shift p q g, h.mem.2 ⟨g, hg, rfl⟩, ?_, ?_⟩
            · rw [shift_eq]
              exact m1
            · apply L_inj
              rw [hpar]
              exact shift_mv (.inl ⟨c, hc, by rw [m2, hpc], rfl⟩)
    · rw [h2]
      have hd := h.good.dirs f hf
      rw [isDir_iff] at hd ⊢
      rcases hd with hd | ⟨g, hg, m1, m2⟩
      · exact .inl hd
      · by_cases hr : parent f.path = ⟨#[]⟩
        · exact .inl hr
        · refine .inr ⟨g, h.still hg (fun k => ?_), m1, m2⟩
          rw [m2] at k
          exact h1 (wi_parent hr k)
theorem Moves.back (h : Moves t p q) : Moves (sort (t.map (shift p q))) q p where
  good := h.good'
  hp := h.hq
  hq := h.hp
  n1 := h.n2
  n2 := h.n1
  is := by
    obtain ⟨d, hd, e⟩ := h.is
    refine ⟨shift p q d, h.mem.2 ⟨d, hd, rfl⟩, L_inj ?_⟩
    have := shift_mv (p := p) (q := q) (f := d) (v := L q ++ []) (.inl ⟨[], .nil, by rw [e, List.append_nil], rfl⟩)
    rwa [List.append_nil] at this
  free := fun g hg e => by
    obtain ⟨f, hf, rfl⟩ := h.mem.1 hg
    rcases h.mv hf with ⟨e', he, k1, k2⟩ | ⟨k1, _, k3⟩
    · rw [e] at k2
      exact h.n2 ⟨e', he, k2⟩
    · rw [e] at k3
      rw [← k3] at k1
      exact k1 (wi.refl _)
  dir := by
    obtain ⟨d, hd, e⟩ := h.is
    have hd := h.good.dirs d hd
    rw [e] at hd
    rw [isDir_iff] at hd ⊢
    rcases hd with hd | ⟨g, hg, m1, m2⟩
    · exact .inl hd
    · by_cases hr : parent p = ⟨#[]⟩
      · exact .inl hr
      · refine .inr ⟨g, h.still hg (fun k => ?_), m1, m2⟩
        rw [m2] at k
        rcases parent_cases p with ⟨_, k'⟩ | ⟨name, _, k'⟩
        · exact hr k'
        · obtain ⟨c, _, hc⟩ := k
          have h1 := congrArg List.length hc
          have h2 := congrArg List.length k'
          simp only [List.length_append, List.length_cons] at h1 h2
          omega
  small := fun g hg => by
    obtain ⟨f, hf, rfl⟩ := h.mem.1 hg
    rw [shift_back (h.mv hf)]
    have := element_path (h.good.el f hf)
    rw [isPath_segs, Bool.and_eq_true] at this
    exact of_decide_eq_true this.1
theorem Moves.again (h : Moves t p q) : sort ((sort (t.map (shift p q))).map (shift q p)) = t := by
  refine (sort_eq h.back.dst h.good.srt fun f => ?_).symm
  rw [List.mem_map]
  constructor
  · intro hf
    exact ⟨shift p q f, h.mem.2 ⟨f, hf, rfl⟩, shift_back (h.mv hf)⟩
  · rintro ⟨g, hg, rfl⟩
    obtain ⟨f, hf, rfl⟩ := h.mem.1 hg
    rwa [shift_back (h.mv hf)]
theorem move_moves (hg : Good t) (hp : Qm.isPath p = true) (hq : Qm.isPath q = true) (n1 : ¬ wi (L q) (L p)) (n2 : ¬ wi (L p) (L q)) (h : (move t p q).2 = 0) : Moves t p q ∧ (move t p q).1 = sort (t.map (shift p q)) := by
  unfold move at h ⊢
  split at h
  · cases h
  rename_i h1
  rw [if_neg h1]
  split at h
  · rename_i h2
    exact (h2 h).elim
  rename_i h2
  rw [if_neg h2]
  split at h
  · cases h
  rename_i h3
  rw [if_neg h3]
  have h2' : room t q = 0 := by simpa using h2
  obtain ⟨r1, r2⟩ := (room_zero hg.srt).1 h2'
  refine ⟨⟨hg, hp, hq, n1, n2, ?_, r1, r2, fun f hf => ?_⟩, rfl⟩
  · cases hf : Tr.find t p with
    | none => rw [hf] at h1; exact (h1 rfl).elim
    | some d => exact ⟨d, (hg.srt.find.1 hf).1, (hg.srt.find.1 hf).2⟩
  · have h3' : ((t.map (shift p q)).any fun f => decide (200 < f.path.size)) = false := by simpa using h3
    rw [List.any_eq_false] at h3'
    have := h3' _ (List.mem_map_of_mem hf)
    simpa using this
theorem Moves.move (h : Moves t p q) : Tr.move t p q = (sort (t.map (shift p q)), 0) := by
  unfold Tr.move
  obtain ⟨d, hd, e⟩ := h.is
  rw [h.good.srt.find.2 ⟨hd, e⟩, if_neg (by simp), (room_zero h.good.srt).2 ⟨h.free, h.dir⟩, if_neg (by simp), if_neg]
  rw [Bool.not_eq_true, List.any_eq_false]
  intro g hg
  obtain ⟨f, hf, rfl⟩ := List.mem_map.1 hg
  have := h.small f hf
  simpa using this
end
end Tr
end Go.Proofs.YtdbokolbheileaaGreatDoor
