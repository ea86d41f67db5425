/- Noughts appended behind digits that the call owns; the walks of the document's tens, Scaled. -/
import Derived.Test.YtbkhdjbhijmghaaRefG
import Derived.Deep.AppendLies
import Derived.Lib.AppendZerosOnto
namespace Go.Proofs.Ytbkhdjbhijmghaa
open Go.RowKit

theorem zero_cells (k : Nat) : Builtin.zeroCells (Value.int .u8 0).cells k = (List.replicate k (Value.int .u8 0)).toArray := by
  apply Array.ext
  · simp [Builtin.zeroCells, Value.cells]
  · intro i h1 h2
    simp [Builtin.zeroCells, Value.cells, Nat.mod_one]

theorem run_zeros_room (w : World) (ty : TypeId) (g n cap k : Nat) (cur : Array Value) (hg : w.heap[g]? = some (.cells cur 5 (0, 0))) (hroom : n + k ≤ cap) (hfit : n + k ≤ cur.size) (hk : k < 100000) :
    (Builtin.append_ #[65, 3] ty #[.slice (some ⟨g, 0, none⟩) n cap, .int .i64 k]).run Try.prog w =
      .ok (.slice (some ⟨g, 0, none⟩) (n + k) cap) (w.setRow g (cur.toList.take n ++ List.replicate k (Value.int .u8 0) ++ cur.toList.drop (n + k)).toArray) := by
  obtain ⟨i, hi, hi3⟩ := Option.map_eq_some_iff.1 infoByte
  obtain ⟨hz, hsz, hby⟩ : i.zero = some (.int .u8 0) ∧ i.size = 1 ∧ i.bytes = 1 := by
    injection hi3 with h1 h2; injection h2 with h2 h3; exact ⟨h1, h2, h3⟩
  have hst := run_storeCells_at Try.prog g n 5 (List.replicate k (.int .u8 0)) 0 cur w hg (by simpa using hfit) (by
    intro v hv
    rw [List.eq_of_mem_replicate hv]; rfl)
  simp only [Nat.add_zero, List.length_replicate] at hst
  have hw : IntKind.i64.wrap (k : Int) = k := by rw [IntKind.wrap_i64]; omega
  have hneg : ¬ ((k : Int) < 0) := by omega
  have h48i : ¬ (281474976710656 < (k : Int) * (i.bytes : Int)) := by rw [hby]; omega
  by_cases h0 : k = 0
  · subst h0
    simp at hst
    have hw0 : IntKind.i64.wrap 0 = 0 := by rw [IntKind.wrap_i64]; rfl
    simp at hroom
    simp [Builtin.append_, run_underlying Try.underlying65, run_underlying Try.underlying3, sizeOf, typeInfo, hi, hsz, asInt, asIntOf, Addr.add_lit, hst, hw0, hroom]
  · simp [Builtin.append_, run_underlying Try.underlying65, run_underlying Try.underlying3, sizeOf, typeInfo, hi, hz, hsz, zeroValue, asInt, asIntOf, hw, hneg, h48i, hroom, h0, Addr.add_lit, zero_cells, hst]

/-- Digits in a row that the call owns, or none. -/
def OwnD (base : Nat) (v : Value) (l : List Nat) (w : World) : Prop := w.ownsRow base 5 1 v l.length (digC l)
theorem OwnD.dig {base : Nat} {v : Value} {l : List Nat} {w : World} (h : OwnD base v l w) : DigV v l w := by
  obtain ⟨_, h⟩ := h
  rcases h with ⟨rfl, h0⟩ | ⟨g, cap, cur, rfl, hb, hg, hn, _, hc, ht⟩
  · exact .inl ⟨List.eq_nil_of_length_eq_zero h0, rfl⟩
  · refine .inr ⟨g, 0, cap, rfl, hn, (Array.getElem?_eq_some_iff.1 hg).1, fun i hi => ?_⟩
    rw [Lib.cell_of_heap hg, Nat.zero_add]
    have h1 : (cur.toList.take (l.length * 1))[i]? = (digC l)[i]? := by rw [ht]
    rw [List.getElem?_take_of_lt (by omega)] at h1
    have h2 : cur[i]? = cur.toList[i]? := by simp
    rw [h2, h1]
    simp [digC, List.getElem?_eq_getElem hi]
theorem OwnD.nil (base : Nat) (w : World) : OwnD base (.slice none 0 0) [] w := ⟨rfl, .inl ⟨rfl, rfl⟩⟩

theorem run_zeros_own (w : World) (ty : TypeId) (base k : Nat) (v : Value) (l : List Nat) (h : OwnD base v l w) (h0 : 0 < l.length) (hk : k < 100000) (hl : l.length < 100000) (hb : base ≤ w.heap.size) :
    ∃ v' w', (Builtin.append_ #[65, 3] ty #[v, .int .i64 k]).run Try.prog w = .ok v' w' ∧ OwnD base v' (l ++ List.replicate k 0) w' ∧ w.grownBy w' v.ownBlock := by
  obtain ⟨i, hi, hi3⟩ := Option.map_eq_some_iff.1 infoByte
  obtain ⟨hz, hsz, hby⟩ : i.zero = some (.int .u8 0) ∧ i.size = 1 ∧ i.bytes = 1 := by
    injection hi3 with h1 h2; injection h2 with h2 h3; exact ⟨h1, h2, h3⟩
  have hC : digC (l ++ List.replicate k 0) = digC l ++ List.replicate k (.int .u8 0) := by simp [digC]
  have hL : (digC (l ++ List.replicate k 0)).length = (l ++ List.replicate k 0).length * 1 := by simp [digC]
  have hN : (l ++ List.replicate k 0).length = l.length + k := by simp
  obtain ⟨hlen, hown⟩ := h
  rcases hown with ⟨_, h1⟩ | ⟨g, cap, cur, rfl, hbg, hg, hnc, hcm, hcs, htake⟩
  · omega
  · by_cases hroom : l.length + k ≤ cap
    · refine ⟨_, _, run_zeros_room w ty g l.length cap k cur hg hroom (by omega) hk, ⟨hL, .inr ⟨g, cap, _, by rw [hN], hbg, setRow_heap w g cur _ 5 _ hg, by omega, hcm, ?_, ?_⟩⟩, ⟨rfl, rfl, rfl, by simp, fun j _ hj => setRow_other w g j _ (fun e => hj (by simp [Value.ownBlock, e]))⟩⟩
      · simp only [List.size_toArray, List.length_append, List.length_take, List.length_drop, List.length_replicate, Array.length_toList]
        omega
      · rw [Nat.mul_one] at htake ⊢
        rw [htake, hN, hC]
        have hCl : (digC l ++ List.replicate k (Value.int .u8 0)).length = l.length + k := by simp [digC]
        rw [← hCl]
        exact List.take_left
    · have hold : (Builtin.firstCells i.size l.length (.slice (some ⟨g, 0, none⟩) l.length cap)).run Try.prog w.drew = .ok (digC l).toArray w.drew := by
        rw [hsz]
        exact run_firstCells_some (P := Try.prog) w.drew 1 l.length ⟨g, 0, none⟩ l.length cap (digC l) (by simp [digC]) (by
          intro j u hu
          have hj := (List.getElem?_eq_some_iff.1 hu).1
          have hj2 : j < l.length := by simpa [digC] using hj
          rw [Addr.add_lit, Lib.cell_of_heap (show w.drew.heap[g]? = _ from hg), Nat.zero_add]
          have h1 : (cur.toList.take (l.length * 1))[j]? = (digC l)[j]? := by rw [htake]
          rw [List.getElem?_take_of_lt (by omega)] at h1
          have h2 : cur[j]? = cur.toList[j]? := by simp
          rw [h2, h1, hu])
      have hk0 : 0 < k := by omega
      have hr := Lib.run_append_grow_zeros (P := Try.prog) w 65 3 ty 5 i (.int .u8 0) .i64 .i64 Try.underlying65 Try.underlying3 hi hz (some ⟨g, 0, none⟩) l.length cap (digC l) hold k hk0 (by omega) (by omega) (by omega) (by rw [hby]; omega) (by rw [hby]; exact growslice_fits (by omega) (by omega))
      have hge := grownCap_ge w (l.length + k) cap 5
      have hcm2 : grownCap w (l.length + k) cap 5 ≤ maxLen := grownCap_le_maxLen w (l.length + k) cap 5 (by unfold maxLen; omega)
      refine ⟨_, _, hr, ⟨hL, .inr ⟨w.heap.size, _, _, by rw [hN], hb, heap_alloc_new w.drew _, by omega, hcm2, ?_, ?_⟩⟩, ⟨rfl, rfl, rfl, by simp, fun j hj _ => heap_alloc_old w.drew _ hj⟩⟩
      · rw [zero_cells, zero_cells]
        simp [digC]
        omega
      · rw [zero_cells, zero_cells, hC, Nat.mul_one, hN]
        have hCl : (digC l ++ List.replicate k (Value.int .u8 0)).length = l.length + k := by simp [digC]
        rw [← hCl]
        simp only [Array.toList_append]
        exact List.take_left

theorem grown_ext {base : Nat} {w0 w w' : World} {v : Value} {l : List Nat} (h : OwnD base v l w) (hg : w.grownBy w' v.ownBlock) (hbase : base ≤ w.heap.size) (hw0 : Ext w0 w) (hb0 : w0.heap.size ≤ base) : Ext w0 w' := by
  have hne : ∀ k, k < w0.heap.size → some k ≠ v.ownBlock := by
    intro k hk he
    rcases h.2 with ⟨rfl, _⟩ | ⟨g2, cap2, cur, rfl, hb2, _⟩
    · cases he
    · injection he with he
      simp only [] at he
      omega
  exact Below.trans hw0 ⟨hg.os, hg.tape, hg.output, hg.size, fun k hk => hg.block k (Nat.lt_of_lt_of_le hk (Nat.le_trans hb0 hbase)) (hne k hk)⟩

theorem wpList_zeros {ops : Array Oper} {rest : List Oper} {o : Oper} {a : Act} {Q : Exit → Act → World → Prop} (w w0 : World) (hgd : o.guard = none) (sl x : Operand)
    (ho : o.op = .call { callee := .builtin .append, args := #[sl, x], argTypes := #[65, 3] })
    (base k : Nat) (v : Value) (l : List Nat) (hs : a.eval sl = v) (hx : a.eval x = .int .i64 k) (h : OwnD base v l w) (h0 : 0 < l.length) (hk : k < 100000) (hl : l.length < 100000) (hbase : base ≤ w.heap.size) (hw0 : Ext w0 w) (hb0 : w0.heap.size ≤ base)
    (hn : ∀ v' w', OwnD base v' (l ++ List.replicate k 0) w' → Ext w0 w' → wpList Try.prog ops Q rest (a.put o.dst v') w') :
    wpList Try.prog ops Q (o :: rest) a w := by
  obtain ⟨v', w', hr, h2, h3⟩ := run_zeros_own w o.type base k v l h h0 hk hl hbase
  exact Lib.wpList_append_run w hgd sl x 65 3 ho v (.int .i64 k) hs hx v' w' hr (hn v' w' h2 (grown_ext h h3 hbase hw0 hb0))

theorem wpList_copy_dig {ops : Array Oper} {rest : List Oper} {o : Oper} {a : Act} {Q : Exit → Act → World → Prop} (w : World) (hgd : o.guard = none) (sl x : Operand)
    (ho : o.op = .call { callee := .builtin .append, args := #[sl, x], argTypes := #[65, 65] })
    (v : Value) (l : List Nat) (hs : a.eval sl = .slice none 0 0) (hx : a.eval x = v) (h : DigV v l w) (h0 : 0 < l.length) (hl : l.length < 100000)
    (hn : ∀ v' w', OwnD w.heap.size v' l w' → Ext w w' → wpList Try.prog ops Q rest (a.put o.dst v') w') :
    wpList Try.prog ops Q (o :: rest) a w := by
  obtain ⟨i, hi, hi3⟩ := Option.map_eq_some_iff.1 infoByte
  obtain ⟨hz, hsz, hby⟩ : i.zero = some (.int .u8 0) ∧ i.size = 1 ∧ i.bytes = 1 := by
    injection hi3 with h1 h2; injection h2 with h2 h3; exact ⟨h1, h2, h3⟩
  rcases h with ⟨rfl, _⟩ | ⟨b, off, c, rfl, hc, hb, hcell⟩
  · simp at h0
  · refine wpList_append_lies w hgd sl x 65 ho w.heap.size 5 i (.int .u8 0) 1 1 Try.underlying65 hi hz hsz hby rfl (by omega) (.slice none 0 0) 0 [] hs ⟨rfl, .inl ⟨rfl, rfl⟩⟩ ⟨b, off, none⟩ l.length c (digC l) hx (by simp [digC]) ?_ ?_ h0 (by unfold maxLen; omega) (by omega) (Nat.le_refl _) w.heap.size rfl ?_
    · intro j u hu
      have hj := (List.getElem?_eq_some_iff.1 hu).1
      have hj2 : j < l.length := by simpa [digC] using hj
      rw [Addr.add_lit, hcell j hj2]
      simp [digC, List.getElem?_eq_getElem hj2] at hu
      rw [← hu]
    · intro u hu
      obtain ⟨d, _, rfl⟩ := List.mem_map.1 hu
      rfl
    · intro g cap w1 hown hgrow hat hlt
      rw [Nat.zero_add, List.nil_append] at hown
      rw [Nat.zero_add]
      exact hn _ _ hown ⟨hgrow.os, hgrow.tape, hgrow.output, hgrow.size, fun k hk => hgrow.block k hk (by simp [Value.ownBlock])⟩

/-- A number's digits with n noughts behind them. -/
def tensD (l : List Nat) (n : Nat) : List Nat := if l = [] then [] else l ++ List.replicate n 0
theorem tensD_digs (N n : Nat) : tensD (digs N) n = digs (N * 10 ^ n) := by
  unfold tensD
  by_cases h : N = 0
  · subst h; rw [digs_zero]; simp [digs_zero]
  · have hpos : 0 < N := by omega
    rw [if_neg (digs_ne hpos)]
    induction n with
    | zero => simp
    | succ n ih =>
      rw [List.replicate_succ', ← List.append_assoc, ih, Nat.pow_succ, ← Nat.mul_assoc]
      have hp : 0 < N * 10 ^ n := Nat.mul_pos hpos (Nat.pow_pos (by omega))
      rw [digs_pos (show 0 < N * 10 ^ n * 10 by omega), Nat.mul_div_cancel _ (by omega), Nat.mul_mod_left]

set_option maxHeartbeats 2000000 in
set_option maxRecDepth 100000 in
theorem tens_any (v : Value) (l : List Nat) (n : Nat) (w : World) (hv : DigV v l w) (hl : l.length < 100000) (hn : n < 100000) :
    Calls Try.prog 46 #[v, .int .i64 n] w fun e w' => (∃ v', e = .returned v' ∧ DigV v' (tensD l n) w') ∧ Ext w w' := by
  obtain ⟨p, c, rfl⟩ := hv.form
  by_cases h0 : l.length = 0
  · have hnil : l = [] := List.eq_nil_of_length_eq_zero h0
    go_enter Try.func46, Try.ntmps46
    go_wp2_with fail
    go_ret
    exact ⟨⟨_, rfl, .inl ⟨by unfold tensD; rw [if_pos hnil], rfl⟩⟩, Ext.refl _⟩
  · have hne : l ≠ [] := fun h => h0 (by rw [h]; rfl)
    go_enter Try.func46, Try.ntmps46
    go_wp2_with (at_builtin; refine wpList_copy_dig _ rfl _ _ rfl _ l rfl rfl ?c1 ?c2 ?c3 ?_)
    case c1 => exact hv
    case c2 => omega
    case c3 => exact hl
    intro v1 w1 hv1 x1
    go_wp2_with (at_builtin; refine wpList_zeros _ w rfl _ _ rfl w.heap.size n _ l rfl rfl ?c1 ?c2 ?c3 ?c4 ?c5 ?c6 ?c7 ?_)
    case c1 => exact hv1
    case c2 => omega
    case c3 => exact hn
    case c4 => exact hl
    case c5 => exact x1.size
    case c6 => exact x1
    case c7 => exact Nat.le_refl _
    intro v2 w2 hv2 x2
    go_wp2_with fail
    go_ret
    exact ⟨⟨_, rfl, by unfold tensD; rw [if_neg hne]; exact hv2.dig⟩, x2⟩
end Go.Proofs.Ytbkhdjbhijmghaa
