/- One struct appended to a slice that owns its row. -/
import Derived.Test.YtojfgidoobgcaaaGreatDoorNu
import Derived.Deep.AppendLies
set_option linter.unusedSimpArgs false
set_option linter.unusedVariables false
namespace Go.Proofs.YtojfgidoobgcaaaGreatDoor
open Go Go.RowKit

theorem wpList_append_w {P : Program} {ops : Array Oper} {Q : Exit → Act → World → Prop} {α : Type} {k by_ : Nat} {R : Reads α} (ho1 : ∀ {w F c x}, R w F c x → ∀ u ∈ c, Value.oneCell' u = true) (w0 w : World) {rest : List Oper} {o : Oper} {a : Act} (hgd : o.guard = none) (s x : Operand) (t e : TypeId) (i : TypeInfo) (z : Value)
    (ho : o.op = .call { callee := .builtin .append, args := #[s, x], argTypes := #[t, t] }) (ht : P.underlying t = some (.slice e)) (hi : P.info? e = some i) (hz : i.zero = some z) (hsz : i.size = k) (hby : i.bytes = by_) (hzk : z.cells.size = k) (hk : 0 < k)
    (base : Nat) {F : Nat → Prop} (v : Value) (l : List α) (hs : a.eval s = v) (h : OwnW k R e w0 w base F v l) (b c : Nat) (cells : List Value) (y : α) (hx : a.eval x = .slice (some ⟨b, 0, none⟩) 1 c) (hr : w.rangeAt b 0 cells) (hlen : cells.length = k) (hy : R w0 F cells y)
    (hn : l.length + 1 ≤ maxLen) (hbig : (l.length + 1) * by_ ≤ 140737488355328) (hbase : base ≤ w.heap.size)
    (hK : ∀ g cap w', OwnW k R e w0 w' base F (.slice (some ⟨g, 0, none⟩) (l.length + 1) cap) (l ++ [y]) → w.grownBy w' v.ownBlock → wpList P ops Q rest (a.put o.dst (.slice (some ⟨g, 0, none⟩) (l.length + 1) cap)) w') : wpList P ops Q (o :: rest) a w := by
  obtain ⟨cs, h1, h2, h3, h4⟩ := h
  refine wpList_append_lies w hgd s x t ho base e i z k by_ ht hi hz hsz hby hzk hk v l.length cs.flatten hs h3 ⟨b, 0, none⟩ 1 c cells hx (by rw [hlen, Nat.one_mul]) (fun j u hu => ?_) (fun u hu => ho1 hy u hu) (by omega) hn hbig hbase w.heap.size rfl (fun g cap w' hown hgrow _ _ => ?_)
  · rw [Addr.add_mid]
    exact hr j u hu
  · refine hK g cap w' ⟨cs ++ [cells], by simp [h1], fun d hd => ?_, ?_, fun j d q hd hq => ?_⟩ hgrow
    · rcases List.mem_append.1 hd with hd | hd
      · exact h2 d hd
      · obtain rfl : d = cells := by simpa using hd
        exact hlen
    · rw [List.length_append, List.flatten_append]
      simpa using hown
    · rcases Nat.lt_or_ge j cs.length with hj | hj
      · rw [List.getElem?_append_left hj] at hd
        rw [List.getElem?_append_left (by omega)] at hq
        exact h4 j d q hd hq
      · rw [List.getElem?_append_right hj] at hd
        rw [List.getElem?_append_right (by omega), ← h1] at hq
        have hj0 : j - cs.length = 0 := by
          have := (List.getElem?_eq_some_iff.1 hd).1
          simpa using this
        rw [hj0] at hd hq
        obtain rfl : cells = d := by simpa using hd
        obtain rfl : y = q := by simpa using hq
        exact hy
end Go.Proofs.YtojfgidoobgcaaaGreatDoor
