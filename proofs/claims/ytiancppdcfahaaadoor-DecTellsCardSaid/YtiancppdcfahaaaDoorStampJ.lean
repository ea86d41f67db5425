/- Digits appended behind a row that the call owns. -/
import Derived.Test.YtiancppdcfahaaaDoorStampI
namespace Go.Proofs.YtiancppdcfahaaaDoor
open Go.RowKit

/-- A slice of digits in a row that the call owns, or nil. -/
def DigO (base : Nat) (v : Value) (l : List Nat) (w : World) : Prop := w.ownsRow base 5 1 v l.length (digC l)
theorem DigO.dig {base : Nat} {v : Value} {l : List Nat} {w : World} (h : DigO base v l w) : DigV v l w := by
  obtain ⟨_, h⟩ := h
  rcases h with ⟨rfl, h0⟩ | ⟨g, cap, cur, rfl, hb, hg, hn, _, hc, ht⟩
  · exact .inl ⟨List.eq_nil_of_length_eq_zero h0, rfl⟩
  · refine .inr ⟨g, 0, cap, rfl, hn, (Array.getElem?_eq_some_iff.1 hg).1, fun i hi => ?_⟩
    rw [Lib.cell_of_heap hg, Nat.zero_add]
    have h1 : (cur.toList.take (l.length * 1))[i]? = (digC l)[i]? := by rw [ht]
    rw [List.getElem?_take_of_lt (by omega)] at h1
    have h2 : cur[i]? = cur.toList[i]? := by simp
    rw [h2, h1]
    simp [digC, List.getElem?_eq_getElem hi]
theorem DigO.nil (base : Nat) (w : World) : DigO base (.slice none 0 0) [] w := ⟨rfl, .inl ⟨rfl, rfl⟩⟩

theorem DigO.al {base : Nat} {v : Value} {l : List Nat} {w : World} (h : DigO base v l w) (o : Obj) : DigO base v l (w.alloc o) := World.ownsRow.alloc h o
theorem wpList_append_own_dig {ops : Array Oper} {rest : List Oper} {o : Oper} {a : Act} {Q : Exit → Act → World → Prop} (w w0 : World) (hgd : o.guard = none) (sl x : Operand)
    (ho : o.op = .call { callee := .builtin .append, args := #[sl, x], argTypes := #[47, 47] })
    (base g d : Nat) (v : Value) (l : List Nat) (hs : a.eval sl = v) (hx : a.eval x = .slice (some ⟨g, 0, none⟩) 1 1) (hg : w.cell? ⟨g, 0, none⟩ = some (.int .u8 (d : Int))) (hl : DigO base v l w) (hlen : l.length < 100000000000) (hbase : base ≤ w.heap.size) (hw0 : Ext w0 w) (hb0 : w0.heap.size ≤ base)
    (h : ∀ v' w', DigO base v' (l ++ [d]) w' → Ext w0 w' → base ≤ w'.heap.size → wpList Tryd.prog ops Q rest (a.put o.dst v') w') :
    wpList Tryd.prog ops Q (o :: rest) a w := by
  obtain ⟨i, hi, hi3⟩ := Option.map_eq_some_iff.1 infoByte
  obtain ⟨hz, hsz, hby⟩ : i.zero = some (.int .u8 0) ∧ i.size = 1 ∧ i.bytes = 1 := by
    injection hi3 with h1 h2; injection h2 with h2 h3; exact ⟨h1, h2, h3⟩
  refine wpList_append_lies w hgd sl x 47 ho base 5 i (.int .u8 0) 1 1 Tryd.underlying47 hi hz hsz hby rfl (by omega) v l.length (digC l) hs hl ⟨g, 0, none⟩ 1 1 [.int .u8 (d : Int)] hx rfl ?_ ?_ (by omega) ?_ ?_ hbase w.heap.size rfl ?_
  · intro j u hu
    have hj : j = 0 := by
      have := (List.getElem?_eq_some_iff.1 hu).1
      simp at this; exact this
    subst hj
    rw [Addr.add_lit]
    simp at hu
    rw [← hu]; exact hg
  · intro u hu
    simp at hu
    subst hu; rfl
  · unfold maxLen; omega
  · omega
  · intro g' cap w1 hown hgrow hat hlt
    have ho' : DigO base (.slice (some ⟨g', 0, none⟩) (l.length + 1) cap) (l ++ [d]) w1 := by
      unfold DigO
      rw [List.length_append, List.length_singleton, show digC (l ++ [d]) = digC l ++ [.int .u8 (d : Int)] from by simp [digC]]
      exact hown
    refine h _ _ ho' ?_ (Nat.le_trans hbase hgrow.size)
    have hne : ∀ k, k < w0.heap.size → some k ≠ v.ownBlock := by
      intro k hk he
      rcases hl.2 with ⟨rfl, _⟩ | ⟨g2, cap2, cur, rfl, hb2, _⟩
      · cases he
      · injection he with he
        simp only [] at he
        omega
    exact Below.trans hw0 ⟨hgrow.os, hgrow.tape, hgrow.output, hgrow.size, fun k hk => hgrow.block k (Nat.lt_of_lt_of_le hk (Nat.le_trans hb0 hbase)) (hne k hk)⟩
end Go.Proofs.YtiancppdcfahaaaDoor
