/- The walk of the document's trim once more: where what it tells lies. -/
import Derived.Test.YthfihlapgoglaaaRefX
namespace Go.Proofs.Ythfihlapgoglaaa
open Go.RowKit

set_option maxHeartbeats 2000000 in
set_option maxRecDepth 100000 in
theorem trim_from (B0 : Nat) (v : Value) (l : List Nat) (w : World) (hv : DigV v l w) (hl : l.length < 100000) (hB : ∀ g, v.ownBlock = some g → B0 ≤ g) :
    Calls Try.prog 52 #[v] w fun e w' => (∃ v', e = .returned v' ∧ DigV v' (trimD l) w' ∧ ∀ g, v'.ownBlock = some g → B0 ≤ g) ∧ w = w' := by
  go_enter Try.func52, Try.ntmps52
  go_wp2_with fail
  go_loopw [0] (fun v' wr => ∃ l', DigV v' l' w ∧ l'.length < 100000 ∧ (∀ g, v'.ownBlock = some g → B0 ≤ g) ∧ Hid (trimD l' = trimD l) ∧ wr = w) (fun v' _ => match v' with | .slice _ n _ => n | _ => 0)
  case atStart => exact ⟨l, hv, hl, hB, rfl, rfl⟩
  case round =>
    obtain ⟨l', hv', hl', hB', ht, rfl⟩ := hrel
    cases l' with
    | nil =>
      obtain ⟨p, c, rfl⟩ := hv'.form
      rw [List.length_nil] at *
      have HT : Hid ([] = trimD l) := ht.out
      clear ht
      go_wp2_with fail
      go_ret
      exact ⟨⟨_, rfl, by rw [← HT.out]; exact hv', hB'⟩, rfl⟩
    | cons d l' =>
      obtain ⟨b, o, c, rfl, hc, hb, hcell⟩ := hv'.pos (by simp)
      have c0 : wr.cell? ⟨b, o, none⟩ = some (.int .u8 (d : Int)) := hcell 0 (by simp)
      simp only [List.length_cons] at *
      by_cases hd : d = 0
      · subst hd
        have ht2 : Hid (trimD l' = trimD l) := Lib.hid (by rw [← ht.out, trimD_zero])
        clear ht
        go_wp2_with fail
        have hB2 : B0 ≤ b := hB' b rfl
        refine ⟨⟨l', ?_, by omega, ?_, ht2, trivial⟩, Nat.lt_succ_self _⟩
        rotate_left
        · intro g hg
          split at hg <;> (simp [Value.ownBlock] at hg; omega)
        by_cases h1 : c = 1
        · subst h1
          rw [if_pos rfl]
          exact .inr ⟨b, o, _, rfl, by omega, hb, fun i hi => absurd hi (by omega)⟩
        · rw [if_neg h1]
          refine .inr ⟨b, o + 1, _, rfl, by omega, hb, fun i hi => ?_⟩
          have := hcell (i + 1) (by omega)
          rw [show o + 1 + i = o + (i + 1) from by omega]
          exact this
      · have ht2 : Hid (d :: l' = trimD l) := Lib.hid (by rw [← ht.out, trimD_pos _ hd])
        clear ht
        go_wp2_with fail
        go_ret
        exact ⟨⟨_, rfl, by rw [← ht2.out]; exact hv', hB'⟩, rfl⟩

/-- Digits stand where another row grows. -/
theorem DigV.grown {r : Value} {l : List Nat} {w w' : World} {row : Option Nat} (h : DigV r l w) (hg : w.grownBy w' row) (hs : ∀ g, r.ownBlock = some g → some g ≠ row) : DigV r l w' := by
  rcases h with h | ⟨b, o, c, rfl, h2, h3, h4⟩
  · exact .inl h
  · exact .inr ⟨b, o, c, rfl, h2, Nat.lt_of_lt_of_le h3 hg.size, fun i hi => (World.grownBy.cell_far hg ⟨b, o + i, none⟩ h3 (hs b rfl)).trans (h4 i hi)⟩
theorem OwnD.lt {base : Nat} {v : Value} {l : List Nat} {w : World} (h : OwnD base v l w) : ∀ g, v.ownBlock = some g → base ≤ g ∧ g < w.heap.size := fun g hg => World.ownsRow.lt h g hg

/-- A digit behind digits that the call owns, told whole. -/
theorem run_one_grown (w : World) (ty : TypeId) (base g d : Nat) (v : Value) (l : List Nat) (h : OwnD base v l w) (hg : w.cell? ⟨g, 0, none⟩ = some (.int .u8 (d : Int))) (hl : l.length < 100000) (hbase : base ≤ w.heap.size) :
    ∃ v' w', (Builtin.append_ #[53, 53] ty #[v, .slice (some ⟨g, 0, none⟩) 1 1]).run Try.prog w = .ok v' w' ∧ OwnD base v' (l ++ [d]) w' ∧ w.grownBy w' v.ownBlock := by
  obtain ⟨i, hi, hi3⟩ := Option.map_eq_some_iff.1 infoByte
  obtain ⟨hz, hsz, hby⟩ : i.zero = some (.int .u8 0) ∧ i.size = 1 ∧ i.bytes = 1 := by
    injection hi3 with h1 h2; injection h2 with h2 h3; exact ⟨h1, h2, h3⟩
  obtain ⟨v', w', hr, h2, h3, _⟩ := run_append_own (P := Try.prog) w base 53 ty 5 i (.int .u8 0) 1 1 Try.underlying53 hi hz hsz hby rfl (by omega) v l.length (digC l) h ⟨g, 0, none⟩ 1 1 [.int .u8 (d : Int)] rfl (by
    intro j u hu
    have hj : j = 0 := by
      have := (List.getElem?_eq_some_iff.1 hu).1
      simp at this; exact this
    subst hj
    rw [Addr.add_lit]
    simp at hu
    rw [← hu]; exact hg) (by
    intro u hu
    simp at hu
    subst hu; rfl) (by unfold maxLen; omega) (by omega) hbase
  refine ⟨v', w', hr, ?_, h3⟩
  unfold OwnD
  rw [List.length_append, List.length_singleton, show digC (l ++ [d]) = digC l ++ [.int .u8 (d : Int)] from by simp [digC]]
  exact h2
theorem wpList_one_grown {ops : Array Oper} {rest : List Oper} {o : Oper} {a : Act} {Q : Exit → Act → World → Prop} (w : World) (hgd : o.guard = none) (s x : Operand)
    (ho : o.op = .call { callee := .builtin .append, args := #[s, x], argTypes := #[53, 53] }) (base g d : Nat) (v : Value) (l : List Nat) (hs : a.eval s = v) (hx : a.eval x = .slice (some ⟨g, 0, none⟩) 1 1) (h : OwnD base v l w) (hg : w.cell? ⟨g, 0, none⟩ = some (.int .u8 (d : Int))) (hl : l.length < 100000) (hbase : base ≤ w.heap.size)
    (hn : ∀ v' w', OwnD base v' (l ++ [d]) w' → w.grownBy w' v.ownBlock → wpList Try.prog ops Q rest (a.put o.dst v') w') :
    wpList Try.prog ops Q (o :: rest) a w := by
  obtain ⟨v', w', hr, h2, h3⟩ := run_one_grown w o.type base g d v l h hg hl hbase
  exact Lib.wpList_append_run w hgd s x 53 53 ho v _ hs hx v' w' hr (hn v' w' h2 h3)
end Go.Proofs.Ythfihlapgoglaaa
