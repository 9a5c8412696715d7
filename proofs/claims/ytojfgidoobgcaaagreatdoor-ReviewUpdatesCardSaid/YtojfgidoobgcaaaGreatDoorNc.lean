/- Walks: names of layer 55, digests compared. -/
import Derived.Test.YtojfgidoobgcaaaGreatDoorNb
import Derived.Test.YtojfgidoobgcaaaGreatDoorL
import Derived.Test.YtojfgidoobgcaaaGreatDoorTp
import Derived.Lib.ConvBytes
import Derived.Lib.BytesEntry
set_option linter.unusedSimpArgs false
set_option linter.unusedVariables false
namespace Go.Proofs.YtojfgidoobgcaaaGreatDoor
open Go Go.RowKit

theorem bytesOf_cells {P : Program} {w : World} {a : List UInt8} {p : Addr} {c : Nat} (h : ∀ j x, a[j]? = some x → w.cell? (p.add j) = some (.int .u8 x.toNat)) :
    (Extern.Bytes.bytesOf (.slice (some p) a.length c)).run P w = .ok ⟨a.toArray⟩ w := by
  show (Extern.Bytes.loadBytes p a.length ByteArray.empty).run P w = _
  have h1 := Lib.run_loadBytesX (P := P) w (a.map fun x => (x.toNat : Int)) p ByteArray.empty (fun j x hx => by
    rw [List.getElem?_map] at hx
    cases ha : a[j]? with
    | none => rw [ha] at hx; cases hx
    | some y =>
      rw [ha] at hx
      obtain rfl := Option.some.inj hx
      exact h j y ha)
  rw [List.length_map] at h1
  rw [h1]
  have e : Lib.bytesOf (a.map fun x => (x.toNat : Int)) = a := by
    unfold Lib.bytesOf
    rw [List.map_map]
    conv => rhs; rw [← List.map_id a]
    congr 1
    funext x
    simp
  rw [e]
  congr 1
  apply ByteArray.ext
  show (#[] : Array UInt8) ++ a.toArray = a.toArray
  simp
theorem run_cmp {P : Program} {w : World} {a b : List UInt8} {p q : Addr} {c d : Nat} (h : ∀ j x, a[j]? = some x → w.cell? (p.add j) = some (.int .u8 x.toNat)) (k : ∀ j x, b[j]? = some x → w.cell? (q.add j) = some (.int .u8 x.toNat)) :
    (Extern.BytealgCompare.compare #[.slice (some p) a.length c, .slice (some q) b.length d]).run P w = .ok (.int .i64 (Lib.compareBytes a b)) w := by
  change Sem.run P (do pure (goInt (Extern.BytealgCompare.cmp (← Extern.Bytes.bytesOf (.slice (some p) a.length c)) (← Extern.Bytes.bytesOf (.slice (some q) b.length d))))) w = _
  simp only [Sem.run_bind, Sem.run_pure, Result.andThen, bytesOf_cells h, bytesOf_cells k]
  rw [Lib.cmp_eq]
  rfl
set_option maxRecDepth 100000 in
theorem bcompare_any (a b : List UInt8) (p q : Addr) (n m c d : Nat) (w : World) (ha : a.length = n) (hb : b.length = m) (h : ∀ j x, a[j]? = some x → w.cell? (p.add j) = some (.int .u8 x.toNat)) (k : ∀ j x, b[j]? = some x → w.cell? (q.add j) = some (.int .u8 x.toNat)) :
    Calls Tryz.prog 100 #[.slice (some p) n c, .slice (some q) m d] w (Same (.int .i64 (Lib.compareBytes a b)) w) := by
  subst ha hb
  go_enter Tryz.func100, Tryz.ntmps100
  go_wp2
  rw [run_callFunc_extern Tryz.func110 (by kernel_rfl) (by kernel_rfl) (by kernel_rfl) (e := Extern.BytealgCompare.compare) (by kernel_rfl), run_cmp h k]
  simp only [Result.andThen]
  rw [Oper.upon_value]
  go_wp2
  go_ret
  exact Same.mk rfl

/-! ### A byte in a list of bytes -/
theorem bindex_any (l : List UInt8) (p : Addr) (n c : Nat) (x : UInt8) (w : World) (hn : l.length = n) (hb : n ≤ 4611686018427387904) (h : ∀ j y, l[j]? = some y → w.cell? (p.add j) = some (.int .u8 y.toNat)) :
    Calls Tryz.prog 104 #[.slice (some p) n c, .int .u8 x.toNat] w (fun e w' => ∃ i : Int, e = .returned (.int .i64 i) ∧ (0 ≤ i ↔ x ∈ l) ∧ w' = w) := by
  obtain ⟨b, o, pth⟩ := p
  go_enter Tryz.func104, Tryz.ntmps104
  go_wp2
  go_loop [8] (fun i => ∃ k : Nat, k ≤ n ∧ i = .int .i64 k ∧ Hid (∀ j y, j < k → l[j]? = some y → y ≠ x)) (fun i => n - (intOf i).toNat)
  case atStart => exact ⟨0, Nat.zero_le _, rfl, Lib.hid fun j y h => absurd h (Nat.not_lt_zero _)⟩
  case round =>
    obtain ⟨k, hk, rfl, hno⟩ := hrel
    by_cases hlt : k < n
    · have e1 : l[k]? = some (l[k]'(by omega)) := List.getElem?_eq_getElem (by omega)
      have hc := h k _ e1
      have hmem : l[k]'(by omega) ∈ l := List.getElem_mem _
      generalize l[k]'(by omega) = y at e1 hc hmem
      have hy : y.toNat < 256 := y.toNat_lt
      have hx : x.toNat < 256 := x.toNat_lt
      simp only [Addr.add] at hc
      go_wp2
      · rename_i hq _
        go_ret
        refine ⟨k, rfl, ⟨fun _ => ?_, fun _ => by omega⟩, rfl⟩
        have e3 := (List.getElem?_eq_some_iff.1 e1).2
        have e2 : (x.toNat : Int) = (y.toNat : Int) := by rw [← e3]; exact of_decide_eq_true (by simpa using hq)
        have : x = y := UInt8.toNat_inj.1 (by omega)
        rw [this]
        exact hmem
      · rename_i hq
        have hxy : y ≠ x := fun e => by
          subst e
          have e3 := (List.getElem?_eq_some_iff.1 e1).2
          rw [e3] at hq
          simp at hq
        refine ⟨⟨k + 1, hlt, rfl, Lib.hid fun j z hj hz => ?_⟩, ?_⟩
        · rcases Nat.lt_or_ge j k with h1 | h1
          · exact hno.out j z h1 hz
          · obtain rfl : j = k := by omega
            rw [e1] at hz
            obtain rfl := Option.some.inj hz
            exact hxy
        · simp [intOf]; omega
    · obtain rfl : k = n := by omega
      go_wp2
      go_ret
      refine ⟨-1, rfl, ⟨fun h => absurd h (by decide), fun hm => ?_⟩, rfl⟩
      obtain ⟨j, hj, e⟩ := List.getElem_of_mem hm
      exact absurd e (hno.out j _ (by omega) (List.getElem?_eq_getElem hj))
theorem bcontains_any (l : List UInt8) (p : Addr) (n c : Nat) (x : UInt8) (w : World) (hn : l.length = n) (hb : n ≤ 4611686018427387904) (h : ∀ j y, l[j]? = some y → w.cell? (p.add j) = some (.int .u8 y.toNat)) :
    Calls Tryz.prog 87 #[.slice (some p) n c, .int .u8 x.toNat] w (Same (.bool (decide (x ∈ l))) w) := by
  go_enter Tryz.func87, Tryz.ntmps87
  have HI := Lib.hid (bindex_any l p n c x w hn hb h)
  go_wp2_with fail
  refine HI.out.mono ?_
  rintro e w1 ⟨i, rfl, hi, rfl⟩
  go_wp2_with fail
  go_ret
  exact Same.mk (congrArg Value.bool (by by_cases hm : x ∈ l <;> simp [hm, hi, goInt] <;> omega))

/-! ### Names -/
theorem vindex_not {l : List UInt8} {c : UInt8} (hn : c ∉ l) : Lib.indexByte l c = -1 := by
  have h0 := Lib.indexByte_ge l c
  by_cases hm : Lib.indexByte l c = -1
  · exact hm
  · obtain ⟨o, ho⟩ : ∃ o : Nat, Lib.indexByte l c = o := ⟨(Lib.indexByte l c).toNat, by omega⟩
    exact (hn (List.mem_of_getElem? (Lib.indexByte_some ho).1)).elim
theorem vpieces {u : ByteArray} (h : (47 : UInt8) ∉ u.data.toList) : pieces u = [u] := by
  unfold pieces
  exact Lib.splitB_miss _ _ _ _ (by rw [show Lib.indexB u ⟨#[47]⟩ = Lib.indexByte u.data.toList 47 from Lib.index_one u.data.toList 47]; exact vindex_not h)
theorem no_slash {s : ByteArray} (h : Qm.isName s = true) : (47 : UInt8) ∉ s.data.toList := fun hm => by
  unfold Qm.isName at h
  have h1 := (Bool.and_eq_true _ _ ▸ h).1
  have := List.all_eq_true.1 h1 47 hm
  exact absurd this (by decide)
theorem name_path (s : ByteArray) : Qm.isName s = (Qm.isPath s && !decide ((47 : UInt8) ∈ s.data.toList)) := by
  by_cases hm : (47 : UInt8) ∈ s.data.toList
  · have : Qm.isName s = false := by
      cases h : Qm.isName s
      · rfl
      · exact absurd hm (no_slash h)
    rw [this, decide_eq_true hm]
    simp
  · have hp : pieces s = [s] := vpieces hm
    rw [decide_eq_false hm, isPath_pieces, hp]
    have h2 : Qm.isName s = true → decide (s.size ≤ 200) = true := fun h => by
      unfold Qm.isName at h
      simp only [Bool.and_eq_true, decide_eq_true_eq] at h ⊢
      omega
    cases h : Qm.isName s
    · simp [h]
    · simp [h, h2 h]
/-- A new row of bytes is no old block. -/
theorem ext_bytes (w : World) (e : TypeId) (s : ByteArray) : Ext w (Lib.bytesWorld w e s) :=
  ⟨rfl, rfl, rfl, by rw [Lib.bytesWorld_size]; omega, fun k hk => Lib.bytesWorld_at_old w e s k hk⟩
theorem sl_nil (w : World) : Sl w none 0 0 [] := ⟨Lst.nil w _, fun _ => ⟨rfl, rfl⟩⟩
/-- The patch that a name is tried by. -/
def dirPv (s : ByteArray) : Pv := ⟨3, s, ⟨#[]⟩, 0, 0, none, 0, 0, none, 0, 0, 0, ⟨#[]⟩, ⟨#[]⟩, 0, 0⟩
theorem dirPv_check (s : ByteArray) : (dirPv s).check [] [] = if Qm.isPath s = true then 0 else 5 := by
  have h1 : (dirPv s).known = true := rfl
  have h2 : (dirPv s).tidy = true := by simp [Pv.tidy, Pv.strip, Pv.bare, dirPv, ByteArray.toList_eq]
  have h3 : (dirPv s).pathsOk = Qm.isPath s := by unfold Pv.pathsOk; show (Qm.isPath s && true) = _; rw [Bool.and_true]
  unfold Pv.check
  rw [h1, h2, h3]
  cases h : Qm.isPath s
  · rfl
  · rfl
theorem dir_any (s : ByteArray) (w : World) (hg : Glob w) (hs : s.size ≤ 1000000000) : Calls Tryz.prog 86 #[(dirPv s).v] w (Ret (.int .i64 (if Qm.isPath s = true then 0 else 5)) w) := by
  have h := check_any (dirPv s) [] [] w hg (sl_nil w) (sl_nil w) (Nat.zero_le _) (Nat.zero_le _) (Nat.le_trans hs (by decide)) (Nat.zero_le _)
  rw [dirPv_check] at h
  exact h
theorem vname_any (s : ByteArray) (w : World) (hg : Glob w) (hs : s.size ≤ 1000000000) :
    Calls Tryz.prog 66 #[.string s] w (Ret (.bool (Qm.isName s)) w) := by
  have hc := dir_any s w hg hs
  have HC := Lib.hid hc
  clear hc
  have hk := fun W : World => Lib.run_convert_string_bytes (P := Tryz.prog) W 9 112 5 s Tryz.underlying9 Tryz.underlying112 Tryz.underlying5
  go_enter Tryz.func66, Tryz.ntmps66
  have hx := Ext.refl w
  go_wp2_with fail
  refine HC.out.mono ?_
  rintro e w1 ⟨rfl, hx0⟩
  have hy := hx.trans hx0
  clear hx hx0
  have hx := hy
  clear hy
  cases hp : Qm.isPath s
  · go_wp2_with fail
    (go_ret; refine Ret.mk ?_ ?_; (focus (rw [name_path s, hp]; rfl; done)); (focus (exact EX; done)))
  · go_wp2_with fail
    have hlen : s.data.toList.length = s.size := by simp
    refine (bcontains_any s.data.toList _ s.size _ 47 _ hlen (by omega) fun j y hy => ?_).mono ?_
    · have hj : j < s.size := by rw [← hlen]; exact (List.getElem?_eq_some_iff.1 hy).1
      have := Lib.bytesWorld_cell w1 5 s j hj
      rw [List.getD_eq_getElem?_getD, hy] at this
      have e0 : (⟨w1.heap.size, 0, none⟩ : Addr).add j = ⟨w1.heap.size, j, none⟩ := by unfold Addr.add; split <;> simp_all
      rw [e0]
      exact this
    · rintro e w2 ⟨rfl, rfl⟩
      have hx2 := hx.trans (ext_bytes w1 5 s)
      clear hx
      go_wp2_with fail
      go_ret
      refine Ret.mk ?_ hx2
      rw [name_path s, hp]
      show Value.bool _ = Value.bool _
      simp
end Go.Proofs.YtojfgidoobgcaaaGreatDoor
