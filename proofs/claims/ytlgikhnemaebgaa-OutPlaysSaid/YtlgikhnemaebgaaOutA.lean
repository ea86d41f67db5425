/- A text that has a bound, in memory: what it is ('OutIs'), what stays ('Kept'); the contracts of the Builder in its first field. -/
import Derived.Test.YtlgikhnemaebgaaBase
import Derived.Lib.FrozenHead
namespace Go.Proofs.Ytlgikhnemaebgaa
open Go.RowKit

/-- The blocks that were there stand, but for those of S. -/
structure Kept (S : Nat → Prop) (w w' : World) : Prop where
  os : w'.os = w.os
  tape : w'.tape = w.tape
  output : w'.output = w.output
  size : w.heap.size ≤ w'.heap.size
  block : ∀ k, k < w.heap.size → ¬ S k → w'.heap[k]? = w.heap[k]?
theorem Kept.refl (S : Nat → Prop) (w : World) : Kept S w w := ⟨rfl, rfl, rfl, Nat.le_refl _, fun _ _ _ => rfl⟩
theorem Kept.trans {S S' : Nat → Prop} {a b c : World} (h : Kept S a b) (h' : Kept S' b c) (hs : ∀ i, i < a.heap.size → S' i → S i) : Kept S a c :=
  ⟨h'.os.trans h.os, h'.tape.trans h.tape, h'.output.trans h.output, Nat.le_trans h.size h'.size, fun i hi hn => (h'.block i (Nat.lt_of_lt_of_le hi h.size) (fun e => hn (hs i hi e))).trans (h.block i hi hn)⟩
theorem Kept.of_ext {S : Nat → Prop} {w w' : World} (h : Ext w w') : Kept S w w' := ⟨h.os, h.tape, h.output, h.size, fun k hk _ => h.heap hk⟩
theorem Kept.ext {S : Nat → Prop} {a w w' : World} (hx : Ext a w) (h : Kept S w w') (hs : ∀ k, k < a.heap.size → ¬ S k) : Ext a w' :=
  Below.trans hx ⟨h.os, h.tape, h.output, h.size, fun k hk => h.block k (Nat.lt_of_lt_of_le hk hx.size) (hs k hk)⟩
theorem Kept.of_grown {w w' : World} {row : Option Nat} (h : w.grownBy w' row) : Kept (fun k => row = some k) w w' :=
  ⟨h.os, h.tape, h.output, h.size, fun k hk hn => h.block k hk (fun e => hn e.symm)⟩
theorem Kept.of_set (w : World) (p : Addr) (u : Value) : Kept (fun k => k = p.block) w (w.setCell p u) :=
  ⟨rfl, rfl, rfl, by simp [World.setCell], fun _ _ hn => Below.heap_setCell _ _ _ _ hn⟩
theorem Kept.drew {S : Nat → Prop} {a w : World} (h : Kept S a w) : Kept S a w.drew := ⟨h.os, h.tape, h.output, h.size, h.block⟩
theorem Kept.drewN {S : Nat → Prop} {a w : World} (h : Kept S a w) (n : Nat) : Kept S a (w.drewN n) := ⟨h.os, h.tape, h.output, h.size, h.block⟩
theorem Kept.mono {S S' : Nat → Prop} {w w' : World} (h : Kept S w w') (hs : ∀ k, S k → S' k) : Kept S' w w' := ⟨h.os, h.tape, h.output, h.size, fun k hk hn => h.block k hk (fun e => hn (hs k e))⟩

theorem kept_owned {S : Nat → Prop} {w w' : World} {base : Nat} {e : TypeId} {size : Nat} {v : Value} {n : Nat} {xs : List Value} (h : w.ownsRowF base e size v n xs) (hk : Kept S w w') (hne : ∀ k, v.ownBlock = some k → ¬ S k) : w'.ownsRowF base e size v n xs := by
  refine ⟨h.1, ?_⟩
  rcases h.2 with hn | ⟨g, cap, cur, fz, rfl, hb, hg, rest⟩
  · exact .inl hn
  · refine .inr ⟨g, cap, cur, fz, rfl, hb, ?_, rest⟩
    rw [hk.block g (Array.getElem?_eq_some_iff.1 hg).1 (hne g rfl)]
    exact hg

/-- A text that has a bound: block b; v: its buffer; l: its bytes. -/
def OutIs (B b : Nat) (v : Value) (l : List UInt8) (most : Int) (full : Bool) (w : World) : Prop :=
  B ≤ b ∧ ∃ p, (p = .pointer none ∨ p = .pointer (some ⟨b, 0, none⟩)) ∧ w.heap[b]? = some (.cells #[p, v, .int .i64 most, .bool full] 39 (0, 0)) ∧
    w.ownsRowF B 5 1 v l.length (Lib.byteCells l) ∧ (l = [] → v = .slice none 0 0)

/-- What an operation on it may write. -/
def Its (b : Nat) (v : Value) (k : Nat) : Prop := k = b ∨ v.ownBlock = some k

theorem ne_types : (39 : TypeId) ≠ 5 := by decide
theorem OutIs.lt {B b : Nat} {v : Value} {l : List UInt8} {most : Int} {full : Bool} {w : World} (h : OutIs B b v l most full w) : b < w.heap.size := by
  obtain ⟨_, p, _, hb, _⟩ := h
  exact (Array.getElem?_eq_some_iff.1 hb).1
theorem OutIs.own {B b : Nat} {v : Value} {l : List UInt8} {most : Int} {full : Bool} {w : World} (h : OutIs B b v l most full w) : ∀ k, v.ownBlock = some k → B ≤ k ∧ k < w.heap.size := by
  obtain ⟨_, p, _, _, hown, _⟩ := h
  exact hown.lt
theorem OutIs.ne {B b : Nat} {v : Value} {l : List UInt8} {most : Int} {full : Bool} {w : World} (h : OutIs B b v l most full w) : v.ownBlock ≠ some b := by
  obtain ⟨_, p, _, hb, hown, _⟩ := h
  exact Lib.ownBlock_neF hown hb ne_types
theorem OutIs.kept {S : Nat → Prop} {B b : Nat} {v : Value} {l : List UInt8} {most : Int} {full : Bool} {w w' : World} (h : OutIs B b v l most full w) (hk : Kept S w w') (hs : ∀ k, Its b v k → ¬ S k) : OutIs B b v l most full w' := by
  have hlt := h.lt
  obtain ⟨hB, p, hp, hb, hown, hnil⟩ := h
  exact ⟨hB, p, hp, (hk.block b hlt (hs b (.inl rfl))).trans hb, kept_owned hown hk (fun k e => hs k (.inr e)), hnil⟩
theorem OutIs.ext {B b : Nat} {v : Value} {l : List UInt8} {most : Int} {full : Bool} {w w' : World} (h : OutIs B b v l most full w) (hk : Ext w w') : OutIs B b v l most full w' :=
  h.kept (S := fun _ => False) (Kept.of_ext hk) (fun _ _ => id)
theorem OutIs.shape {B b : Nat} {v : Value} {l : List UInt8} {most : Int} {full : Bool} {w : World} (h : OutIs B b v l most full w) : ∃ ao cap, v = .slice ao l.length cap := by
  obtain ⟨_, p, _, _, hown, _⟩ := h
  rcases hown.2 with ⟨hv, h0⟩ | ⟨g, cap, cur, fz, hv, _⟩
  · exact ⟨none, 0, by rw [hv, h0]⟩
  · exact ⟨_, _, hv⟩

theorem infoByte : (Try.prog.info? 5).map (fun i => (i.zero, i.size, i.bytes)) = some (some (.int .u8 0), 1, 1) := by kernel_rfl
theorem sizeBuilder : (Try.prog.info? 37).map (·.size) = some 2 := by kernel_rfl
theorem liesBuilder : liesAt Try.prog Try.prog.depth 39 (4 / Try.prog.cellsOf 39) 0 37 1 = true := by kernel_rfl

set_option maxHeartbeats 1000000 in
set_option maxRecDepth 100000 in
theorem copyCheck_any {B b : Nat} {v : Value} {l : List UInt8} {most : Int} {full : Bool} {w : World} (h : OutIs B b v l most full w) :
    Calls Try.prog 16 #[.pointer (some ⟨b, 0, none⟩)] w fun e w' => e = .returned (.tuple #[]) ∧ OutIs B b v l most full w' ∧ w'.heap[b]? = some (.cells #[.pointer (some ⟨b, 0, none⟩), v, .int .i64 most, .bool full] 39 (0, 0)) ∧ Kept (Its b v) w w' := by
  obtain ⟨j, hj, hjs⟩ := Option.map_eq_some_iff.1 sizeBuilder
  have h' := h
  obtain ⟨hB, p, hp, hb, hown, hnil⟩ := h'
  have HB := Lib.hid hb
  rcases hp with rfl | rfl
  · have h0 : w.cell? ⟨b, 0, none⟩ = some (.pointer none) := by rw [Lib.cell_of_heap hb]; rfl
    have hf : w.frozen? ⟨b, 0, none⟩ = false := Lib.frozen_of_heap hb 0
    have HS : Hid (w.shape? b = some (39, 4)) := by unfold Hid; simp [World.shape?, hb]
    clear hb
    go_enter Try.func16, Try.ntmps16
    go_wp2_with fail
    rw [Lib.run_to_unsafe w ⟨b, 0, none⟩ Try.underlying35 Try.underlying45 hj (by rw [hjs]; decide) HS.out (show 0 < 4 by decide)]
    simp only [Result.andThen]
    rw [Oper.upon_value]
    go_wp2
    rw [run_callFunc_extern Try.func17 (by kernel_rfl) (by kernel_rfl) (by kernel_rfl) (e := Extern.AbiNoEscape.same) (by kernel_rfl)]
    rw [Lib.run_noEscape]
    simp only [Result.andThen]
    rw [Oper.upon_value]
    go_wp2
    rw [Lib.run_from_unsafe w ⟨b, 0, none⟩ Try.underlying45 Try.underlying35 hj HS.out liesBuilder]
    simp only [Result.andThen]
    rw [Oper.upon_value]
    go_wp2
    go_end0
    have hk : Kept (Its b v) w (w.setCell ⟨b, 0, none⟩ (.pointer (some ⟨b, 0, none⟩))) := (Kept.of_set w ⟨b, 0, none⟩ _).mono fun _ hk => .inl hk
    have hb' : (w.setCell ⟨b, 0, none⟩ (.pointer (some ⟨b, 0, none⟩))).heap[b]? = some (.cells #[.pointer (some ⟨b, 0, none⟩), v, .int .i64 most, .bool full] 39 (0, 0)) := by
      simp [World.setCell, Array.getElem?_modify, HB.out]
    refine ⟨rfl, ⟨hB, _, .inr rfl, hb', kept_owned hown (Kept.of_set w ⟨b, 0, none⟩ _) (fun k e he => h.ne (by rw [e, he])), hnil⟩, hb', hk⟩
  · have h0 : w.cell? ⟨b, 0, none⟩ = some (.pointer (some ⟨b, 0, none⟩)) := by rw [Lib.cell_of_heap hb]; rfl
    clear hb
    go_enter Try.func16, Try.ntmps16
    go_wp2_with fail
    rw [Lib.run_neq_ptr_same w _ Try.underlying35 hj]
    go_wp2
    go_end0
    exact ⟨rfl, h, HB.out, Kept.refl _ _⟩

theorem empty_of {s : ByteArray} (h : s.data.toList = []) : s = ByteArray.empty := by
  obtain ⟨⟨x⟩⟩ := s
  simp only at h
  subst h; rfl

/-- Behind an append the buffer is where it was, or new. -/
theorem append_where (w : World) (base : Nat) (t u ty e : TypeId) (i : TypeInfo) (ht : Try.prog.underlying t = some (.slice e)) (hu : Try.prog.underlying u = some .string) (hi : Try.prog.info? e = some i) (hz : i.zero = some (.int .u8 0))
    (hsize : i.size = 1) (hby : i.bytes = 1) (v : Value) (n : Nat) (xs : List Value) (hown : w.ownsRowF base e 1 v n xs) (s : ByteArray) (h63 : n + s.size ≤ maxLen) (hbytes : n + s.size ≤ 140737488355328)
    {v' : Value} {w' : World} (hr : (Builtin.append_ #[t, u] ty #[v, .string s]).run Try.prog w = .ok v' w') :
    v'.ownBlock = v.ownBlock ∨ ∀ k, v'.ownBlock = some k → w.heap.size ≤ k := by
  have hs' : n + s.size ≤ 9223372036854775807 := by simp only [maxLen] at h63; omega
  have hsame := hown
  rcases hown.2 with ⟨rfl, rfl⟩ | ⟨g, cap, cur, fz, rfl, hbg, hg, hfz, hnc, hcm, hcs, htake⟩
  · obtain ⟨v2, w2, h1, h2, _, _⟩ := Lib.run_append_own_string (P := Try.prog) w w.heap.size t u ty e i ht hu hi hz hsize hby (.slice none 0 0) 0 xs ⟨hown.1, .inl ⟨rfl, rfl⟩⟩ s h63 hbytes (Nat.le_refl _)
    rw [hr] at h1
    injection h1 with e1 _
    subst e1
    exact .inr fun k hk => ((World.ownsRowF_of h2).lt k hk).1
  · by_cases hroom : n + s.size ≤ cap
    · have h1 := Lib.run_append_room_stringF (P := Try.prog) w t u ty e i ht hu hi hsize g n cap cur fz hg (by simpa using hfz) s hroom (by rw [Nat.mul_one] at hcs; omega)
      rw [hr] at h1
      injection h1 with e1 _
      subst e1
      exact .inl rfl
    · have hx : xs.length = n := by simpa using hown.1
      have h1 := Lib.run_append_grow_string (P := Try.prog) w t u ty e i (.int .u8 0) ht hu hi hz ⟨g, 0, none⟩ n cap xs (by rw [hsize]; simpa using hx) (hsame.cells (g := g) rfl) s (by omega) (by omega) (by rw [hby]; exact growslice_fits (by omega) (by omega))
      rw [hr] at h1
      injection h1 with e1 _
      subst e1
      exact .inr fun k hk => by simp [Value.ownBlock] at hk; omega

theorem wpList_append_str {ops : Array Oper} {rest : List Oper} {o : Oper} {a : Act} {Q : Exit → Act → World → Prop} (w : World) (hgd : o.guard = none) (sl x : Operand) (t u : TypeId)
    (ho : o.op = .call { callee := .builtin .append, args := #[sl, x], argTypes := #[t, u] })
    (base : Nat) (e : TypeId) (i : TypeInfo) (ht : Try.prog.underlying t = some (.slice e)) (hu : Try.prog.underlying u = some .string) (hi : Try.prog.info? e = some i) (hz : i.zero = some (.int .u8 0))
    (hsize : i.size = 1) (hby : i.bytes = 1)
    (v : Value) (n : Nat) (xs : List Value) (hs : a.eval sl = v) (hown : w.ownsRowF base e 1 v n xs) (s : ByteArray) (hx : a.eval x = .string s)
    (h63 : n + s.size ≤ maxLen) (hbytes : n + s.size ≤ 140737488355328) (hbase : base ≤ w.heap.size)
    (h : ∀ v' w', w'.ownsRowF base e 1 v' (n + s.size) (xs ++ Lib.strCells s) → w.grownBy w' v.ownBlock → (v' = .slice none 0 0 ↔ v = .slice none 0 0 ∧ s.size = 0) → (v'.ownBlock = v.ownBlock ∨ ∀ k, v'.ownBlock = some k → w.heap.size ≤ k) → wpList Try.prog ops Q rest (a.put o.dst v') w') :
    wpList Try.prog ops Q (o :: rest) a w := by
  refine wpList_plain hgd fun K hK => ?_
  obtain ⟨v', w', hr, h2, h3, h4⟩ := Lib.run_append_own_stringF (P := Try.prog) w base t u o.type e i ht hu hi hz hsize hby v n xs hown s h63 hbytes hbase
  have h5 := append_where w base t u o.type e i ht hu hi hz hsize hby v n xs hown s h63 hbytes hr
  unfold Oper.wp execOp
  simp only [ho, resolve, invoke, builtin, Sem.run_bind, Sem.run_pure, Result.andThen_ok, List.map_toArray, List.map_cons, List.map_nil, hs, hx, hr]
  exact hK _ _ (h v' w' h2 h3 h4 h5)

set_option maxHeartbeats 2000000 in
set_option maxRecDepth 100000 in
theorem WriteString_any {B b : Nat} {v : Value} {l : List UInt8} {most : Int} {full : Bool} {w : World} (s : ByteArray) (h : OutIs B b v l most full w) (hlen : l.length + s.size ≤ 140737488355328) (hBw : B ≤ w.heap.size) :
    Calls Try.prog 13 #[.pointer (some ⟨b, 0, none⟩), .string s] w fun e w' => e = .returned (.tuple #[.int .i64 s.size, .nilIface]) ∧ ∃ v', OutIs B b v' (l ++ s.data.toList) most full w' ∧ Kept (Its b v) w w' ∧ (v'.ownBlock = v.ownBlock ∨ ∀ k, v'.ownBlock = some k → w.heap.size ≤ k) := by
  obtain ⟨i0, hi, hz0, hz1, hz2⟩ := info_parts infoByte
  go_enter Try.func13, Try.ntmps13
  go_wp2_with fail
  refine (copyCheck_any h).mono ?_
  rintro e w1 ⟨rfl, h1, hb1, k1⟩
  have hne := h1.ne
  have hlt := h1.lt
  have hw1 := k1.size
  obtain ⟨hB, p1, hp1, hb1', hown, hnil⟩ := h1
  have c1 : w1.cell? ⟨b, 1, none⟩ = some v := by rw [Lib.cell_of_heap hb1]; rfl
  have HB := Lib.hid hb1
  have HN := Lib.hid hnil
  clear hb1 hnil hb1' hp1
  go_wp2_with (at_builtin; refine wpList_append_str _ rfl _ _ 33 9 rfl B 5 i0 Try.underlying33 Try.underlying9 hi hz0 hz1 hz2 _ _ _ rfl hown s rfl ?c3 ?c4 ?c5 ?_)
  case c3 => unfold maxLen; omega
  case c4 => omega
  case c5 => omega
  intro v' w2 hown' hgrow hiff hwhere
  have hb2 : w2.heap[b]? = some (.cells #[.pointer (some ⟨b, 0, none⟩), v, .int .i64 most, .bool full] 39 (0, 0)) := by
    rw [hgrow.block b hlt (fun e => hne e.symm)]
    exact HB.out
  have HB2 := Lib.hid hb2
  have d1 : w2.cell? ⟨b, 1, none⟩ = some v := by rw [Lib.cell_of_heap hb2]; rfl
  have f1 : w2.frozen? ⟨b, 1, none⟩ = false := Lib.frozen_of_heap hb2 1
  obtain ⟨ao, n', cap, rfl⟩ : ∃ ao n' cap, v' = .slice ao n' cap := by
    rcases hown'.2 with ⟨hv, _⟩ | ⟨g, cap, cur, fz, hv, _⟩
    · exact ⟨_, _, _, hv⟩
    · exact ⟨_, _, _, hv⟩
  clear hb2
  have HW := Lib.hid hwhere
  have HI := Lib.hid hiff
  clear hwhere hiff
  go_wp2_with fail
  go_ret2
  have hs2 : Kept (fun k => k = b) w2 (w2.setCell ⟨b, 1, none⟩ (.slice ao n' cap)) := Kept.of_set w2 ⟨b, 1, none⟩ _
  have hne' : (Value.slice ao n' cap).ownBlock ≠ some b := Lib.ownBlock_neF hown' HB2.out ne_types
  refine ⟨rfl, .slice ao n' cap, ⟨hB, .pointer (some ⟨b, 0, none⟩), .inr rfl, ?_, ?_, ?_⟩, ?_, ?_⟩
  · simp [World.setCell, Array.getElem?_modify, HB2.out]
  · have := kept_owned hown' hs2 (fun k e he => hne' (by rw [e, he]))
    have e1 : Lib.byteCells (l ++ s.data.toList) = Lib.byteCells l ++ Lib.strCells s := by simp [Lib.byteCells, Lib.strCells]
    have e2 : (l ++ s.data.toList).length = l.length + s.size := by rw [List.length_append, Array.length_toList]; rfl
    rw [e1, e2]; exact this
  · intro hl
    have : l = [] ∧ s.data.toList = [] := by simpa using hl
    exact HI.out.2 ⟨HN.out this.1, empty_of this.2⟩
  · have k2 : Kept (Its b v) w w2 := k1.trans (S' := fun k => v.ownBlock = some k) (Kept.of_grown hgrow) (fun k _ hk => Or.inr hk)
    exact k2.trans (S' := fun k => k = b) hs2 (fun k _ hk => Or.inl hk)
  · rcases HW.out with h | h
    · exact .inl h
    · exact .inr fun k hk => by have := h k hk; omega
end Go.Proofs.Ytlgikhnemaebgaa
