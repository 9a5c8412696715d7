/- Reviews and their votes, in plain Lean: what layer 55 computes. No program. -/
import Derived.Test.YtnjcifppkijanaaGreatDoorTp
set_option linter.unusedSimpArgs false
set_option linter.unusedVariables false
namespace Go.Proofs.YtnjcifppkijanaaGreatDoor
open Go

/-- A digest. -/
structure Dg where
  b : List UInt8
  len : b.length = 32
deriving DecidableEq
/-- A vote. -/
structure Vt where
  who : ByteArray
  kind : Int
  text : ByteArray
  ids : List Dg
/-- A review. -/
structure Rv where
  number : Int
  author : ByteArray
  branch : ByteArray
  ids : List Dg
  state : Int
  votes : List Vt
def Dg.cells (d : Dg) : List Value := d.b.map fun x => .int .u8 x.toNat
def Dg.cmp (a c : Dg) : Int := Lib.compareBytes a.b c.b
def Dg.zero : Dg := ⟨List.replicate 32 0, rfl⟩
instance : Inhabited Dg := ⟨Dg.zero⟩
namespace Vw
def rising : List Dg → Bool
  | [] => true
  | a :: l => (match l with
    | [] => true
    | c :: _ => decide (a.cmp c < 0)) && rising l
/-- The error of a list of patches. -/
def ids (l : List Dg) : Int := if l.length = 0 ∨ 400 < l.length then 4 else if rising l = false then 9 else 0
def vote (v : Vt) : Int := if Qm.isName v.who = false then 5 else if v.kind < 1 ∨ 3 < v.kind then 8 else if 1000 < v.text.size then 4 else ids v.ids
def votes : List Vt → Int
  | [] => 0
  | v :: l => if vote v ≠ 0 then vote v else votes l
/-- The error of a review, but for its number. -/
def body (r : Rv) : Int :=
  if Qm.isName r.author = false ∨ Qm.isName r.branch = false then 5
  else if ids r.ids ≠ 0 then ids r.ids
  else if r.state < 1 ∨ 5 < r.state then 8
  else if 100 < r.votes.length then 4
  else votes r.votes
def checkFrom : Nat → List Rv → Int
  | _, [] => 0
  | i, r :: l => if r.number ≠ (i + 1 : Nat) then 9 else if body r ≠ 0 then body r else checkFrom (i + 1) l
def check (l : List Rv) : Int := if 100 < l.length then 4 else checkFrom 0 l
def ended (r : Rv) : Bool := r.state == 4 || r.state == 5
/-- Whether a vote of a review is an opinion. -/
def counts (r : Rv) (v : Vt) : Bool := !Qm.eqB v.who r.author && ((v.kind == 1 || v.kind == 2) && decide (v.ids = r.ids))
def opinOf (who : ByteArray) : List Vt → Int → Int
  | [], o => o
  | v :: l, o => opinOf who l (if Qm.eqB v.who who = true then v.kind else o)
/-- The opinion of a person; 0 if there is none. -/
def opin (r : Rv) (who : ByteArray) : Int := opinOf who (r.votes.filter (counts r)) 0
/-- Put into a rising list, unless it is there. -/
def ins (x : ByteArray) : List ByteArray → List ByteArray
  | [] => [x]
  | y :: l => if Tr.lt y x = true then y :: ins x l else if Qm.eqB y x = true then y :: l else x :: y :: l
def people (r : Rv) (k : Int) : List ByteArray := ((r.votes.map Vt.who).filter (fun w => opin r w == k)).foldl (fun a x => ins x a) []
def follows (r : Rv) (need : Int) : Int := if people r 2 ≠ [] then 3 else if need ≤ (people r 1).length then 2 else 1
def propose (l : List Rv) (author branch : ByteArray) (d : List Dg) : List Rv × Int × Int :=
  if check l ≠ 0 then ([], 0, check l)
  else if Qm.isName author = false ∨ Qm.isName branch = false then ([], 0, 5)
  else if ids d ≠ 0 then ([], 0, ids d)
  else if l.any (fun r => Qm.eqB r.branch branch && (!ended r && decide (r.ids = d))) = true then ([], 0, 6)
  else if l.length = 100 then ([], 0, 4)
  else (l ++ [⟨l.length + 1, author, branch, d, 1, []⟩], l.length + 1, 0)
/-- One review changed. -/
def changed (l : List Rv) (number : Int) (f : Rv → Rv × Int) : List Rv × Int :=
  if number < 1 then ([], 7) else match l[(number - 1).toNat]? with
  | none => ([], 7)
  | some r => if ended r = true then ([], 16) else if (f r).2 ≠ 0 then ([], (f r).2) else (l.set (number - 1).toNat (f r).1, 0)
def update (l : List Rv) (number : Int) (who : ByteArray) (d : List Dg) : List Rv × Int :=
  if check l ≠ 0 then ([], check l) else changed l number fun r => if Qm.eqB who r.author = false then (r, 21) else ({ r with ids := d, state := 1 }, ids d)
def voted (v : Vt) (need : Int) (r : Rv) : Rv := { r with votes := r.votes ++ [v], state := follows { r with votes := r.votes ++ [v] } need }
def addVote (l : List Rv) (number : Int) (v : Vt) (need : Int) : List Rv × Int :=
  if check l ≠ 0 then ([], check l) else if need < 0 then ([], 2) else changed l number fun r =>
    if vote v ≠ 0 then (r, vote v) else if v.ids ≠ r.ids then (r, 10) else if r.votes.length = 100 then (r, 4) else (voted v need r, 0)
def close (l : List Rv) (number : Int) (who : ByteArray) (e : Int) : List Rv × Int :=
  if check l ≠ 0 then ([], check l) else if e ≠ 4 ∧ e ≠ 5 then ([], 8) else changed l number fun r =>
    if e = 4 ∧ r.state ≠ 2 then (r, 16) else if e = 5 ∧ Qm.eqB who r.author = false then (r, 21) else ({ r with state := e }, 0)
def opens (l : List Rv) (branch : ByteArray) : List Int := if check l ≠ 0 then [] else (l.filter (fun r => Qm.eqB r.branch branch && !ended r)).map Rv.number

/-! ### Rising lists -/
def Up (l : List ByteArray) : Prop := l.Pairwise fun s t => Tr.lt s t = true
theorem Up.nil : Up [] := List.Pairwise.nil
theorem Up.ext {a b : List ByteArray} (ha : Up a) (hb : Up b) (h : ∀ x, x ∈ a ↔ x ∈ b) : a = b := by
  induction a generalizing b with
  | nil =>
    cases b with
    | nil => rfl
    | cons y b => exact absurd ((h y).2 (List.mem_cons_self ..)) (by simp)
  | cons x a ih =>
    cases b with
    | nil => exact absurd ((h x).1 (List.mem_cons_self ..)) (by simp)
    | cons y b =>
      obtain ⟨ha1, ha2⟩ := List.pairwise_cons.1 ha
      obtain ⟨hb1, hb2⟩ := List.pairwise_cons.1 hb
      have e : x = y := by
        rcases List.mem_cons.1 ((h x).1 (List.mem_cons_self ..)) with e | hx
        · exact e
        · rcases List.mem_cons.1 ((h y).2 (List.mem_cons_self ..)) with e | hy
          · exact e.symm
          · have h1 := Tr.lt_asymm (ha1 y hy)
            rw [hb1 x hx] at h1
            cases h1
      subst e
      congr 1
      refine ih ha2 hb2 fun z => ?_
      constructor
      · intro hz
        rcases List.mem_cons.1 ((h z).1 (List.mem_cons_of_mem _ hz)) with e | hz'
        · exact absurd (ha1 z hz) (by rw [e, Tr.lt_irrefl]; exact Bool.noConfusion)
        · exact hz'
      · intro hz
        rcases List.mem_cons.1 ((h z).2 (List.mem_cons_of_mem _ hz)) with e | hz'
        · exact absurd (hb1 z hz) (by rw [e, Tr.lt_irrefl]; exact Bool.noConfusion)
        · exact hz'
theorem ins_mem {x y : ByteArray} : ∀ {l : List ByteArray}, y ∈ ins x l ↔ y = x ∨ y ∈ l
  | [] => by simp [ins]
  | z :: l => by
    unfold ins
    split
    · rw [List.mem_cons, ins_mem, List.mem_cons]
      exact ⟨fun h => by rcases h with h | h | h <;> simp [h], fun h => by rcases h with h | h | h <;> simp [h]⟩
    · split
      · rename_i h
        have e := Qm.eqB_iff.1 h
        rw [List.mem_cons]
        constructor
        · exact fun k => .inr k
        · rintro (rfl | k)
          · exact .inl e.symm
          · exact k
      · rw [List.mem_cons]
theorem ins_up {x : ByteArray} : ∀ {l : List ByteArray}, Up l → Up (ins x l)
  | [], _ => by unfold ins; exact List.pairwise_singleton _ _
  | z :: l, h => by
    obtain ⟨h1, h2⟩ := List.pairwise_cons.1 h
    unfold ins
    split
    · rename_i hz
      refine List.pairwise_cons.2 ⟨fun y hy => ?_, ins_up h2⟩
      rcases ins_mem.1 hy with rfl | hy
      · exact hz
      · exact h1 y hy
    · rename_i hz
      split
      · exact h
      · rename_i he
        have hxz : Tr.lt x z = true := Tr.lt_of (by simpa using hz) (fun e => he (Qm.eqB_iff.2 e.symm))
        refine List.pairwise_cons.2 ⟨fun y hy => ?_, h⟩
        rcases List.mem_cons.1 hy with rfl | hy
        · exact hxz
        · exact Tr.lt_trans hxz (h1 y hy)
theorem fold_ins : ∀ {l a : List ByteArray}, Up a → Up (l.foldl (fun a x => ins x a) a) ∧ ∀ y, y ∈ l.foldl (fun a x => ins x a) a ↔ y ∈ l ∨ y ∈ a
  | [], a, h => ⟨h, fun y => by simp⟩
  | x :: l, a, h => by
    obtain ⟨h1, h2⟩ := fold_ins (l := l) (ins_up (x := x) h)
    refine ⟨h1, fun y => ?_⟩
    rw [List.foldl_cons, h2, ins_mem, List.mem_cons]
    exact ⟨fun h => by rcases h with h | h | h <;> simp [h], fun h => by rcases h with (h | h) | h <;> simp [h]⟩
theorem people_up (r : Rv) (k : Int) : Up (people r k) := (fold_ins Up.nil).1
theorem opinOf_mem {who : ByteArray} : ∀ {l : List Vt} {o : Int}, opinOf who l o ≠ o → ∃ v ∈ l, v.who = who ∧ v.kind = opinOf who l o
  | [], o, h => (h rfl).elim
  | v :: l, o, h => by
    unfold opinOf at h ⊢
    by_cases h1 : opinOf who l (if Qm.eqB v.who who = true then v.kind else o) = (if Qm.eqB v.who who = true then v.kind else o)
    · rw [h1] at h ⊢
      split at h
      · rename_i h2
        rw [if_pos h2]
        exact ⟨v, List.mem_cons_self .., Qm.eqB_iff.1 h2, rfl⟩
      · exact (h rfl).elim
    · obtain ⟨x, hx, h3, h4⟩ := opinOf_mem h1
      exact ⟨x, List.mem_cons_of_mem _ hx, h3, h4⟩
theorem people_mem {r : Rv} {k : Int} (hk : k ≠ 0) {who : ByteArray} : who ∈ people r k ↔ opin r who = k := by
  unfold people
  rw [(fold_ins Up.nil).2]
  constructor
  · rintro (h | h)
    · simpa using (List.mem_filter.1 h).2
    · cases h
  · intro h
    left
    rw [List.mem_filter]
    refine ⟨?_, by simpa using h⟩
    have h1 : opinOf who (r.votes.filter (counts r)) 0 ≠ 0 := by
      show opin r who ≠ 0
      rw [h]
      exact hk
    obtain ⟨v, hv, h2, _⟩ := opinOf_mem h1
    exact List.mem_map.2 ⟨v, (List.mem_filter.1 hv).1, h2⟩
end Vw
end Go.Proofs.YtnjcifppkijanaaGreatDoor
