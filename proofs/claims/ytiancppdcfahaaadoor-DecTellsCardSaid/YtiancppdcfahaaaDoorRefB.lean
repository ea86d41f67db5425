/- Digits in memory; append of digits behind one. -/
import Derived.Test.YtiancppdcfahaaaDoorRefA
import Derived.Deep.AppendSrc
import Derived.Laws.AppendOwn
namespace Go.Proofs.YtiancppdcfahaaaDoor
open Go.RowKit

/-- A slice of digits. -/
def DigV (v : Value) (l : List Nat) (w : World) : Prop := (l = [] ∧ v = .slice none 0 0) ∨ ∃ b o c, v = .slice (some ⟨b, o, none⟩) l.length c ∧ l.length ≤ c ∧ b < w.heap.size ∧ ∀ i (h : i < l.length), w.cell? ⟨b, o + i, none⟩ = some (.int .u8 (l[i] : Int))
theorem DigV.ext {v : Value} {l : List Nat} {w w' : World} (h : DigV v l w) (x : Ext w w') : DigV v l w' := by
  rcases h with h | ⟨b, o, c, h1, h2, h3, h4⟩
  · exact .inl h
  · exact .inr ⟨b, o, c, h1, h2, Nat.lt_of_lt_of_le h3 x.size, fun i hi => (x.cell (p := ⟨b, o + i, none⟩) h3).trans (h4 i hi)⟩
theorem DigV.form {v : Value} {l : List Nat} {w : World} (h : DigV v l w) : ∃ p c, v = .slice p l.length c := by
  rcases h with ⟨rfl, h⟩ | ⟨b, o, c, h1, _⟩
  · exact ⟨none, 0, h⟩
  · exact ⟨_, c, h1⟩

/-- Digits as cells. -/
def digC (l : List Nat) : List Value := l.map (fun d : Nat => Value.int .u8 (d : Int))
theorem infoByte : (Tryd.prog.info? 5).map (fun i => (i.zero, i.size, i.bytes)) = some (some (.int .u8 0), 1, 1) := by kernel_rfl

theorem DigV.src {v : Value} {l : List Nat} {w : World} (h : DigV v l w) : Src Tryd.prog 1 47 v l.length (digC l) w := by
  rcases h with ⟨rfl, rfl⟩ | ⟨b, o, c, rfl, h2, h3, h4⟩
  · exact Src.ofNil w Tryd.underlying47 0
  · refine Src.ofSlice w Tryd.underlying47 ⟨b, o, none⟩ l.length c (digC l) (by unfold digC; simp) ?_ ?_
    · intro j u hu
      unfold digC at hu
      rw [List.getElem?_map] at hu
      obtain ⟨d, hd, rfl⟩ := Option.map_eq_some_iff.1 hu
      obtain ⟨hj, hd2⟩ := List.getElem?_eq_some_iff.1 hd
      rw [Addr.add_lit, h4 j hj, hd2]
    · intro u hu
      unfold digC at hu
      obtain ⟨d, _, rfl⟩ := List.mem_map.1 hu
      rfl

theorem run_append_dig (w : World) (g d : Nat) (v : Value) (l : List Nat) (hg : w.cell? ⟨g, 0, none⟩ = some (.int .u8 (d : Int))) (hl : DigV v l w) (hlen : l.length < 100000) (ty : TypeId) :
    ∃ v' w', (Builtin.append_ #[47, 47] ty #[.slice (some ⟨g, 0, none⟩) 1 1, v]).run Tryd.prog w = .ok v' w' ∧ DigV v' (d :: l) w' ∧ Ext w w' := by
  obtain ⟨i, hi, hi3⟩ := Option.map_eq_some_iff.1 infoByte
  obtain ⟨hz, hsz, hby⟩ : i.zero = some (.int .u8 0) ∧ i.size = 1 ∧ i.bytes = 1 := by
    injection hi3 with h1 h2; injection h2 with h2 h3; exact ⟨h1, h2, h3⟩
  have hs := hl.src
  rw [← hsz] at hs
  have hgl : g < w.heap.size := World.block_lt_of_cell? w ⟨g, 0, none⟩ hg
  by_cases h0 : l.length = 0
  · obtain rfl : l = [] := List.eq_nil_of_length_eq_zero h0
    have := run_append_room_src (P := Tryd.prog) w 47 47 ty 5 i Tryd.underlying47 hi g 0 1 1 v 0 [] hs (by omega) (fun j hj => absurd hj (Nat.not_lt_zero j)) (fun j hj => absurd hj (Nat.not_lt_zero j))
    refine ⟨.slice (some ⟨g, 0, none⟩) 1 1, w, this, .inr ⟨g, 0, 1, rfl, Nat.le_refl _, hgl, ?_⟩, Ext.refl _⟩
    intro j hj
    obtain rfl : j = 0 := by simp at hj; exact hj
    exact hg
  · have hold : (Builtin.firstCells i.size 1 (.slice (some ⟨g, 0, none⟩) 1 1)).run Tryd.prog w.drew = .ok [Value.int .u8 (d : Int)].toArray w.drew := by
      refine run_firstCells_some w.drew i.size 1 ⟨g, 0, none⟩ 1 1 [.int .u8 (d : Int)] (by rw [hsz]; rfl) ?_
      intro j u hu
      have hj : j = 0 := by
        have := (List.getElem?_eq_some_iff.1 hu).1
        simp at this; exact this
      subst hj
      rw [Addr.add_lit]
      simp at hu
      rw [← hu]
      exact hg
    have := run_append_grow_src (P := Tryd.prog) w 47 47 ty 5 i (.int .u8 0) Tryd.underlying47 hi hz (some ⟨g, 0, none⟩) 1 1 [.int .u8 (d : Int)] hold v l.length (digC l) hs (by omega) (by omega) (by rw [hby]; exact growslice_fits (by omega) (by omega))
    refine ⟨_, _, this, .inr ⟨w.heap.size, 0, grownCap w (1 + l.length) 1 5, by rw [show (d :: l).length = 1 + l.length from by simp; omega], ?_, ?_, ?_⟩, ?_⟩
    · have := grownCap_ge w (1 + l.length) 1 5
      simp only [List.length_cons]; omega
    · exact (by rw [heap_size_alloc]; exact Nat.lt_succ_self _)
    · intro j hj
      have hh := heap_last w.drew (.cells (([Value.int .u8 (d : Int)] ++ digC l).toArray ++ Builtin.zeroCells (Value.int .u8 0).cells (grownCap w (1 + l.length) 1 5 - (1 + l.length))) 5)
      refine (Lib.cell_of_heap hh _).trans ?_
      rw [Nat.zero_add, Array.getElem?_append_left (by simp [digC]; simpa using hj)]
      cases j with
      | zero => simp
      | succ j =>
        have hj2 : j < l.length := by simpa using hj
        simp [digC]
        exact ⟨l[j], List.getElem?_eq_getElem hj2, rfl⟩
    · exact (Ext.refl w).drew.alloc _

theorem wpList_append_dig {ops : Array Oper} {rest : List Oper} {o : Oper} {a : Act} {Q : Exit → Act → World → Prop} (w : World) (hgd : o.guard = none) (sl x : Operand)
    (ho : o.op = .call { callee := .builtin .append, args := #[sl, x], argTypes := #[47, 47] })
    (g d : Nat) (v : Value) (l : List Nat) (hs : a.eval sl = .slice (some ⟨g, 0, none⟩) 1 1) (hx : a.eval x = v) (hg : w.cell? ⟨g, 0, none⟩ = some (.int .u8 (d : Int))) (hl : DigV v l w) (hlen : l.length < 100000)
    (h : ∀ v' w', DigV v' (d :: l) w' → Ext w w' → wpList Tryd.prog ops Q rest (a.put o.dst v') w') :
    wpList Tryd.prog ops Q (o :: rest) a w := by
  refine wpList_plain hgd fun K hK => ?_
  obtain ⟨v', w', hr, h2, h3⟩ := run_append_dig w g d v l hg hl hlen o.type
  unfold Oper.wp execOp
  simp only [ho, resolve, invoke, builtin, Sem.run_bind, Sem.run_pure, Result.andThen_ok, List.map_toArray, List.map_cons, List.map_nil, hs, hx, hr]
  exact hK _ _ (h v' w' h2 h3)
end Go.Proofs.YtiancppdcfahaaaDoor
