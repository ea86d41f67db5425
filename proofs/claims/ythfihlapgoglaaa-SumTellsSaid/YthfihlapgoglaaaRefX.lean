/- Appends of digits as steps of a region that draws its order. -/
import Derived.Test.YthfihlapgoglaaaRefV
import Derived.Deep.RegionLaw
namespace Go.Proofs.Ythfihlapgoglaaa
open Go.RowKit

theorem step_append_run {ops : Array Oper} {o : Oper} {a : Act} {w : World} {K : Act → World → Prop} {Q : Exit → Act → World → Prop} {E : Prop} (hgd : o.guard = none) (s x : Operand)
    (ho : o.op = .call { callee := .builtin .append, args := #[s, x], argTypes := #[53, 53] }) (vs vx : Value) (hs : a.eval s = vs) (hx : a.eval x = vx)
    (v' : Value) (w' : World) (hr : (Builtin.append_ #[53, 53] o.type #[vs, vx]).run Try.prog w = .ok v' w') (h : K (a.put o.dst v') w') :
    if Region.wanted o (yielded ops a.tmps) = true then Oper.wp Try.prog o a w K Q else E := by
  have hw : Region.wanted o (yielded ops a.tmps) = true := by simp [Region.wanted, hgd]
  rw [if_pos hw]
  exact Lib.wp_append_run w s x 53 53 ho vs vx hs hx v' w' hr h

/-- A copy of digits behind nothing. -/
theorem run_copy_dig (w : World) (ty : TypeId) (v : Value) (l : List Nat) (h : DigV v l w) (hl : l.length < 100000) :
    ∃ v' w', (Builtin.append_ #[53, 53] ty #[.slice none 0 0, v]).run Try.prog w = .ok v' w' ∧ OwnD w.heap.size v' l w' ∧ Ext w w' := by
  obtain ⟨i, hi, hi3⟩ := Option.map_eq_some_iff.1 infoByte
  obtain ⟨hz, hsz, hby⟩ : i.zero = some (.int .u8 0) ∧ i.size = 1 ∧ i.bytes = 1 := by
    injection hi3 with h1 h2; injection h2 with h2 h3; exact ⟨h1, h2, h3⟩
  rcases h with ⟨rfl, rfl⟩ | ⟨b, off, c, rfl, hc, hb, hcell⟩
  · refine ⟨.slice none 0 0, w, ?_, OwnD.nil _ _, Ext.refl _⟩
    simp [Builtin.append_, run_underlying Try.underlying53, sizeOf, typeInfo, hi, Builtin.lenOf, Builtin.firstCells]
  · have hnews : ∀ j u, (digC l)[j]? = some u → w.cell? ((⟨b, off, none⟩ : Addr).add j) = some u := by
      intro j u hu
      have hj := (List.getElem?_eq_some_iff.1 hu).1
      have hj2 : j < l.length := by simpa [digC] using hj
      rw [Addr.add_lit, hcell j hj2]
      simp [digC, List.getElem?_eq_getElem hj2] at hu
      rw [← hu]
    obtain ⟨v', w', hr, h2, h3, _⟩ := run_append_own (P := Try.prog) w w.heap.size 53 ty 5 i (.int .u8 0) 1 1 Try.underlying53 hi hz hsz hby rfl (by omega) (.slice none 0 0) 0 [] ⟨rfl, .inl ⟨rfl, rfl⟩⟩ ⟨b, off, none⟩ l.length c (digC l) (by simp [digC]) hnews (by
      intro u hu
      obtain ⟨d, _, rfl⟩ := List.mem_map.1 hu
      rfl) (by unfold maxLen; omega) (by omega) (Nat.le_refl _)
    refine ⟨v', w', hr, ?_, ⟨h3.os, h3.tape, h3.output, h3.size, fun k hk => h3.block k hk (by simp [Value.ownBlock])⟩⟩
    rw [Nat.zero_add, List.nil_append] at h2
    exact h2

/-- A digit behind digits that the call owns. -/
theorem run_one_own (w w0 : World) (ty : TypeId) (base g d : Nat) (v : Value) (l : List Nat) (h : OwnD base v l w) (hg : w.cell? ⟨g, 0, none⟩ = some (.int .u8 (d : Int))) (hl : l.length < 100000) (hbase : base ≤ w.heap.size) (hw0 : Ext w0 w) (hb0 : w0.heap.size ≤ base) :
    ∃ v' w', (Builtin.append_ #[53, 53] ty #[v, .slice (some ⟨g, 0, none⟩) 1 1]).run Try.prog w = .ok v' w' ∧ OwnD base v' (l ++ [d]) w' ∧ Ext w0 w' ∧ base ≤ w'.heap.size := by
  obtain ⟨i, hi, hi3⟩ := Option.map_eq_some_iff.1 infoByte
  obtain ⟨hz, hsz, hby⟩ : i.zero = some (.int .u8 0) ∧ i.size = 1 ∧ i.bytes = 1 := by
    injection hi3 with h1 h2; injection h2 with h2 h3; exact ⟨h1, h2, h3⟩
  obtain ⟨v', w', hr, h2, h3, _⟩ := run_append_own (P := Try.prog) w base 53 ty 5 i (.int .u8 0) 1 1 Try.underlying53 hi hz hsz hby rfl (by omega) v l.length (digC l) h ⟨g, 0, none⟩ 1 1 [.int .u8 (d : Int)] rfl (by
    intro j u hu
    have hj : j = 0 := by
      have := (List.getElem?_eq_some_iff.1 hu).1
      simp at this; exact this
    subst hj
    rw [Addr.add_lit]
    simp at hu
    rw [← hu]; exact hg) (by
    intro u hu
    simp at hu
    subst hu; rfl) (by unfold maxLen; omega) (by omega) hbase
  refine ⟨v', w', hr, ?_, grown_ext h h3 hbase hw0 hb0, Nat.le_trans hbase h3.size⟩
  unfold OwnD
  rw [List.length_append, List.length_singleton, show digC (l ++ [d]) = digC l ++ [.int .u8 (d : Int)] from by simp [digC]]
  exact h2
end Go.Proofs.Ythfihlapgoglaaa
