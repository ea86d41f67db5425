import Derived.Test.YtjjnmefihdjglaaGreatKB
import Derived.Deep.AppendSrc
import Derived.Laws.AppendOwn
import Derived.Deep.AppendLies
import Derived.Lib.AppendZerosOnto
import Derived.Laws.MakeOwn
import Derived.Deep.RegionHeld3
import Derived.Deep.DeepCutAuto
namespace Go.Proofs.YtjjnmefihdjglaaGreat
open Go.RowKit
def digs (N : Nat) : List Nat := if _h : N = 0 then [] else digs (N / 10) ++ [N % 10]
termination_by N
decreasing_by omega
theorem digs_zero : digs 0 = [] := by rw [digs]; simp
theorem digs_pos {N : Nat} (h : 0 < N) : digs N = digs (N / 10) ++ [N % 10] := by rw [digs]; simp; intro h0; omega
def valD : List Nat → Nat := fun l => l.foldl (fun n d => n * 10 + d) 0
theorem valD_append (l m : List Nat) : valD (l ++ m) = m.foldl (fun n d => n * 10 + d) (valD l) := by unfold valD; rw [List.foldl_append]
theorem valD_snoc (l : List Nat) (d : Nat) : valD (l ++ [d]) = valD l * 10 + d := by rw [valD_append]; rfl
theorem valD_digs : ∀ N, valD (digs N) = N := by
 intro N
 induction N using Nat.strongRecOn with
 | ind N ih =>
   by_cases h : N = 0
   ·subst h; rw [digs_zero]; rfl
   ·rw [digs_pos (by omega), valD_snoc, ih (N / 10) (by omega)]; omega
theorem digs_lt : ∀ N, ∀ d ∈ digs N, d < 10 := by
 intro N
 induction N using Nat.strongRecOn with
 | ind N ih =>
   intro d hd
   by_cases h : N = 0
   ·subst h; rw [digs_zero] at hd; cases hd
   ·rw [digs_pos (by omega)] at hd
    rcases List.mem_append.1 hd with hd | hd
    ·exact ih _ (by omega) d hd
    ·rw [List.mem_singleton] at hd; omega
theorem digs_ne {N : Nat} (h : 0 < N) : digs N ≠ [] := by rw [digs_pos h]; simp
theorem digs_head : ∀ N, ∀ d l, digs N = d :: l → d ≠ 0 := by
 intro N
 induction N using Nat.strongRecOn with
 | ind N ih =>
   intro d l hd
   by_cases h : N = 0
   ·subst h; rw [digs_zero] at hd; cases hd
   ·rw [digs_pos (by omega)] at hd
    by_cases h1 : N / 10 = 0
    ·rw [h1, digs_zero] at hd
     injection hd with h2 _
     omega
    ·obtain ⟨d', l', h2⟩ : ∃ d' l', digs (N / 10) = d' :: l' := by
      cases he : digs (N / 10) with
      | nil => exact absurd he (digs_ne (by omega))
      | cons a b => exact ⟨a, b, rfl⟩
     rw [h2] at hd
     injection hd with h3 _
     exact h3 ▸ ih (N / 10) (by omega) d' l' h2
theorem digs_length {N k : Nat} (h : N < 10 ^ k) : (digs N).length ≤ k := by
 induction k generalizing N with
 | zero => rw [Nat.pow_zero] at h; obtain rfl : N = 0 := by omega
           rw [digs_zero]; exact Nat.le_refl _
 | succ k ih =>
   by_cases h0 : N = 0
   ·subst h0; rw [digs_zero]; exact Nat.zero_le _
   ·rw [digs_pos (by omega), List.length_append]
    rw [Nat.pow_succ] at h
    have := ih (N := N / 10) (by omega)
    simp; exact this
theorem digs_low {N : Nat} (h : 0 < N) : 10 ^ ((digs N).length - 1) ≤ N := by
 induction N using Nat.strongRecOn with
 | ind N ih =>
   rw [digs_pos h, List.length_append]
   by_cases h1 : N / 10 = 0
   ·rw [h1, digs_zero]; simp; exact h
   ·have := ih (N / 10) (by omega) (by omega)
    have hl : 0 < (digs (N / 10)).length := List.length_pos_iff.2 (digs_ne (by omega))
    simp only [List.length_cons, List.length_nil]
    rw [show (digs (N / 10)).length + (0 + 1) - 1 = ((digs (N / 10)).length - 1) + 1 from by omega, Nat.pow_succ]
    omega
def cmpEq : List Nat → List Nat → Int
 | a :: l, b :: m => if a < b then -1 else if b < a then 1 else cmpEq l m
 | _, _ => 0
def cmpDg (a b : List Nat) : Int := if a.length = b.length then cmpEq a b else if a.length < b.length then -1 else 1
theorem foldl_val (n : Nat) (l : List Nat) : l.foldl (fun n d => n * 10 + d) n = n * 10 ^ l.length + valD l := by
 induction l generalizing n with
 | nil => simp [valD]
 | cons d l ih =>
   unfold valD
   rw [List.foldl_cons, ih, List.foldl_cons, ih (0 * 10 + d), List.length_cons, Nat.pow_succ]
   rw [Nat.add_mul, Nat.mul_comm (10 ^ l.length) 10, Nat.mul_assoc, Nat.zero_mul, Nat.zero_add, Nat.add_assoc]
theorem valD_cons (d : Nat) (l : List Nat) : valD (d :: l) = d * 10 ^ l.length + valD l := by
 have := foldl_val d l
 unfold valD at *
 rw [List.foldl_cons, Nat.zero_mul, Nat.zero_add, this]
theorem valD_lt (l : List Nat) (h : ∀ d ∈ l, d < 10) : valD l < 10 ^ l.length := by
 induction l with
 | nil => simp [valD]
 | cons d l ih =>
   rw [valD_cons, List.length_cons, Nat.pow_succ]
   have h1 := ih (fun x hx => h x (List.mem_cons_of_mem _ hx))
   have h2 := h d List.mem_cons_self
   have h3 : d * 10 ^ l.length ≤ 9 * 10 ^ l.length := Nat.mul_le_mul_right _ (by omega)
   omega
theorem cmpEq_val : ∀ (a b : List Nat), a.length = b.length → (∀ d ∈ a, d < 10) → (∀ d ∈ b, d < 10) → cmpEq a b = cmpN (valD a) (valD b)
 | [], [], _, _, _ => by rw [cmpN_eq]; rfl
 | x :: a, y :: b, hl, ha, hb => by
   have hl' : a.length = b.length := by simpa using hl
   have ih := cmpEq_val a b hl' (fun d h => ha d (List.mem_cons_of_mem _ h)) (fun d h => hb d (List.mem_cons_of_mem _ h))
   have h1 := valD_lt a (fun d h => ha d (List.mem_cons_of_mem _ h))
   have h2 := valD_lt b (fun d h => hb d (List.mem_cons_of_mem _ h))
   rw [valD_cons, valD_cons, hl', cmpEq]
   rw [hl'] at h1
   by_cases h3 : x < y
   ·rw [if_pos h3]
    have h4 : (x + 1) * 10 ^ b.length ≤ y * 10 ^ b.length := Nat.mul_le_mul_right _ h3
    rw [Nat.add_mul, Nat.one_mul] at h4
    exact (cmpN_lt (by omega)).symm
   ·rw [if_neg h3]
    by_cases h4 : y < x
    ·rw [if_pos h4]
     have h5 : (y + 1) * 10 ^ b.length ≤ x * 10 ^ b.length := Nat.mul_le_mul_right _ h4
     rw [Nat.add_mul, Nat.one_mul] at h5
     exact (cmpN_gt (by omega)).symm
    ·rw [if_neg h4, ih]
     obtain rfl : x = y := by omega
     unfold cmpN
     congr 1
     ·simp
     ·congr 1
      simp
theorem digs_mono_len {A B : Nat} (h : (digs A).length < (digs B).length) : A < B := by
 have h1 := valD_lt (digs A) (digs_lt A)
 rw [valD_digs] at h1
 have hB : 0 < B := by
  by_cases h0 : B = 0
  ·subst h0; rw [digs_zero] at h; simp at h
  ·omega
 have h2 := digs_low hB
 have h3 : 10 ^ (digs A).length ≤ 10 ^ ((digs B).length - 1) := Nat.pow_le_pow_right (by omega) (by omega)
 omega
theorem cmpDg_digs (A B : Nat) : cmpDg (digs A) (digs B) = cmpN A B := by
 unfold cmpDg
 by_cases h : (digs A).length = (digs B).length
 ·rw [if_pos h, cmpEq_val _ _ h (digs_lt A) (digs_lt B), valD_digs, valD_digs]
 ·rw [if_neg h]
  by_cases h1 : (digs A).length < (digs B).length
  ·rw [if_pos h1, cmpN_lt (digs_mono_len h1)]
  ·rw [if_neg h1, cmpN_gt (digs_mono_len (by omega))]
def trimD (l : List Nat) : List Nat := l.dropWhile (fun d => d == 0)
theorem trimD_digs (N : Nat) : trimD (digs N) = digs N := by
 unfold trimD
 cases h : digs N with
 | nil => rfl
 | cons d l => rw [List.dropWhile_cons, if_neg (by simpa using digs_head N d l h)]
theorem digs_tenth {N : Nat} (h : 0 < N) : (digs N).take ((digs N).length - 1) = digs (N / 10) := by
 rw [digs_pos h]; simp
theorem digs_last {N : Nat} (h : 0 < N) (i : Nat) (hi : i + 1 = (digs N).length) (hi' : i < (digs N).length) : (digs N)[i] = N % 10 := by
 have h1 := digs_pos h
 have h2 : i = (digs (N / 10)).length := by rw [h1] at hi; simp at hi; exact hi
 simp only [h1, h2]
 simp
end Go.Proofs.YtjjnmefihdjglaaGreat
namespace Go.Proofs.YtjjnmefihdjglaaGreat
open Go.RowKit
def DigV (v : Value) (l : List Nat) (w : World) : Prop := (l = [] ∧ v = .slice none 0 0) ∨ ∃ b o c, v = .slice (some ⟨b, o, none⟩) l.length c ∧ l.length ≤ c ∧ b < w.heap.size ∧ ∀ i (h : i < l.length), w.cell? ⟨b, o + i, none⟩ = some (.int .u8 (l[i] : Int))
theorem DigV.ext {v : Value} {l : List Nat} {w w' : World} (h : DigV v l w) (x : Ext w w') : DigV v l w' := by
 rcases h with h | ⟨b, o, c, h1, h2, h3, h4⟩
 ·exact .inl h
 ·exact .inr ⟨b, o, c, h1, h2, Nat.lt_of_lt_of_le h3 x.size, fun i hi => (x.cell (p := ⟨b, o + i, none⟩) h3).trans (h4 i hi)⟩
theorem DigV.form {v : Value} {l : List Nat} {w : World} (h : DigV v l w) : ∃ p c, v = .slice p l.length c := by
 rcases h with ⟨rfl, h⟩ | ⟨b, o, c, h1, _⟩
 ·exact ⟨none, 0, h⟩
 ·exact ⟨_, c, h1⟩
def digC (l : List Nat) : List Value := l.map (fun d : Nat => Value.int .u8 (d : Int))
theorem infoByte : (Tryz.prog.info? 5).map (fun i => (i.zero, i.size, i.bytes)) = some (some (.int .u8 0), 1, 1) := by kernel_rfl
theorem DigV.src {v : Value} {l : List Nat} {w : World} (h : DigV v l w) : Src Tryz.prog 1 116 v l.length (digC l) w := by
 rcases h with ⟨rfl, rfl⟩ | ⟨b, o, c, rfl, h2, h3, h4⟩
 ·exact Src.ofNil w Tryz.underlying116 0
 ·refine Src.ofSlice w Tryz.underlying116 ⟨b, o, none⟩ l.length c (digC l) (by unfold digC; simp) ?_ ?_
  ·intro j u hu
   unfold digC at hu
   rw [List.getElem?_map] at hu
   obtain ⟨d, hd, rfl⟩ := Option.map_eq_some_iff.1 hu
   obtain ⟨hj, hd2⟩ := List.getElem?_eq_some_iff.1 hd
   rw [Addr.add_lit, h4 j hj, hd2]
  ·intro u hu
   unfold digC at hu
   obtain ⟨d, _, rfl⟩ := List.mem_map.1 hu
   rfl
theorem run_append_dig (w : World) (g d : Nat) (v : Value) (l : List Nat) (hg : w.cell? ⟨g, 0, none⟩ = some (.int .u8 (d : Int))) (hl : DigV v l w) (hlen : l.length < 100000) (ty : TypeId) :
  ∃ v' w', (Builtin.append_ #[116, 116] ty #[.slice (some ⟨g, 0, none⟩) 1 1, v]).run Tryz.prog w = .ok v' w' ∧ DigV v' (d :: l) w' ∧ Ext w w' := by
 obtain ⟨i, hi, hi3⟩ := Option.map_eq_some_iff.1 infoByte
 obtain ⟨hz, hsz, hby⟩ : i.zero = some (.int .u8 0) ∧ i.size = 1 ∧ i.bytes = 1 := by
  injection hi3 with h1 h2; injection h2 with h2 h3; exact ⟨h1, h2, h3⟩
 have hs := hl.src
 rw [← hsz] at hs
 have hgl : g < w.heap.size := World.block_lt_of_cell? w ⟨g, 0, none⟩ hg
 by_cases h0 : l.length = 0
 ·obtain rfl : l = [] := List.eq_nil_of_length_eq_zero h0
  have := run_append_room_src (P := Tryz.prog) w 116 116 ty 5 i Tryz.underlying116 hi g 0 1 1 v 0 [] hs (by omega) (fun j hj => absurd hj (Nat.not_lt_zero j)) (fun j hj => absurd hj (Nat.not_lt_zero j))
  refine ⟨.slice (some ⟨g, 0, none⟩) 1 1, w, this, .inr ⟨g, 0, 1, rfl, Nat.le_refl _, hgl, ?_⟩, Ext.refl _⟩
  intro j hj
  obtain rfl : j = 0 := by simp at hj; exact hj
  exact hg
 ·have hold : (Builtin.firstCells i.size 1 (.slice (some ⟨g, 0, none⟩) 1 1)).run Tryz.prog w.drew = .ok [Value.int .u8 (d : Int)].toArray w.drew := by
   refine run_firstCells_some w.drew i.size 1 ⟨g, 0, none⟩ 1 1 [.int .u8 (d : Int)] (by rw [hsz]; rfl) ?_
   intro j u hu
   have hj : j = 0 := by
    have := (List.getElem?_eq_some_iff.1 hu).1
    simp at this; exact this
   subst hj
   rw [Addr.add_lit]
   simp at hu
   rw [← hu]
   exact hg
  have := run_append_grow_src (P := Tryz.prog) w 116 116 ty 5 i (.int .u8 0) Tryz.underlying116 hi hz (some ⟨g, 0, none⟩) 1 1 [.int .u8 (d : Int)] hold v l.length (digC l) hs (by omega) (by omega) (by rw [hby]; exact growslice_fits (by omega) (by omega))
  refine ⟨_, _, this, .inr ⟨w.heap.size, 0, grownCap w (1 + l.length) 1 5, by rw [show (d :: l).length = 1 + l.length from by simp; omega], ?_, ?_, ?_⟩, ?_⟩
  ·have := grownCap_ge w (1 + l.length) 1 5
   simp only [List.length_cons]; omega
  ·exact (by rw [heap_size_alloc]; exact Nat.lt_succ_self _)
  ·intro j hj
   have hh := heap_last w.drew (.cells (([Value.int .u8 (d : Int)] ++ digC l).toArray ++ Builtin.zeroCells (Value.int .u8 0).cells (grownCap w (1 + l.length) 1 5 - (1 + l.length))) 5)
   refine (Lib.cell_of_heap hh _).trans ?_
   rw [Nat.zero_add, Array.getElem?_append_left (by simp [digC]; simpa using hj)]
   cases j with
   | zero => simp
   | succ j =>
     have hj2 : j < l.length := by simpa using hj
     simp [digC]
     exact ⟨l[j], List.getElem?_eq_getElem hj2, rfl⟩
  ·exact (Ext.refl w).drew.alloc _
theorem wpList_append_dig {ops : Array Oper} {rest : List Oper} {o : Oper} {a : Act} {Q : Exit → Act → World → Prop} (w : World) (hgd : o.guard = none) (sl x : Operand)
  (ho : o.op = .call { callee := .builtin .append, args := #[sl, x], argTypes := #[116, 116] })
  (g d : Nat) (v : Value) (l : List Nat) (hs : a.eval sl = .slice (some ⟨g, 0, none⟩) 1 1) (hx : a.eval x = v) (hg : w.cell? ⟨g, 0, none⟩ = some (.int .u8 (d : Int))) (hl : DigV v l w) (hlen : l.length < 100000)
  (h : ∀ v' w', DigV v' (d :: l) w' → Ext w w' → wpList Tryz.prog ops Q rest (a.put o.dst v') w') :
  wpList Tryz.prog ops Q (o :: rest) a w := by
 refine wpList_plain hgd fun K hK => ?_
 obtain ⟨v', w', hr, h2, h3⟩ := run_append_dig w g d v l hg hl hlen o.type
 unfold Oper.wp execOp
 simp only [ho, resolve, invoke, builtin, Sem.run_bind, Sem.run_pure, Result.andThen_ok, List.map_toArray, List.map_cons, List.map_nil, hs, hx, hr]
 exact hK _ _ (h v' w' h2 h3)
end Go.Proofs.YtjjnmefihdjglaaGreat
namespace Go.Proofs.YtjjnmefihdjglaaGreat
open Go.RowKit
theorem digits_bound {N N' k : Nat} (h : N' * 10 ^ k ≤ N) (h0 : 0 < N') (hN : N < 18446744073709551616) : k < 20 := by
 have h1 : 10 ^ k ≤ N := Nat.le_trans (Nat.le_mul_of_pos_left _ h0) h
 have h2 : 10 ^ k < 10 ^ 20 := by
  have : (18446744073709551616 : Nat) < 10 ^ 20 := by decide
  omega
 exact (Nat.pow_lt_pow_iff_right (by omega)).1 h2
set_option maxHeartbeats 2000000 in
set_option maxRecDepth 100000 in
theorem digits_any (N : Nat) (w : World) (hN : N < W64) :
  Calls Tryz.prog 122 #[.int .u64 N] w fun e w' => (∃ v, e = .returned v ∧ DigV v (digs N) w') ∧ Ext w w' := by
 unfold W64 at hN
 go_enter Tryz.func122, Tryz.ntmps122
 go_wp2_with fail
 go_loopw [0, 3] (fun n v wr => ∃ (N' : Nat) (l : List Nat), n = .int .u64 N' ∧ N' ≤ N ∧ DigV v l wr ∧ Hid (digs N = digs N' ++ l) ∧ Hid (N' * 10 ^ l.length ≤ N) ∧ l.length < 21 ∧ Ext w wr) (fun n _ _ => (intOf n).toNat)
 case atStart => exact ⟨N, [], rfl, Nat.le_refl _, .inl ⟨rfl, rfl⟩, Lib.hid (by simp), Lib.hid (by simp), by simp, Ext.refl _⟩
 case round =>
  obtain ⟨N', l, rfl, hle, hv, hd, hb, hl, hx⟩ := hrel
  obtain ⟨p, c, hform⟩ := hv.form
  by_cases h0 : 0 < N'
  ·have hl2 := digits_bound hb.out h0 hN
   have hd2 : Hid (digs N = digs (N' / 10) ++ ((N' % 10) :: l)) := Lib.hid (by rw [hd.out, digs_pos h0]; simp)
   have hb2 : Hid (N' / 10 * 10 ^ ((N' % 10) :: l).length ≤ N) := Lib.hid (by
    rw [List.length_cons, Nat.pow_succ, Nat.mul_comm (10 ^ l.length), ← Nat.mul_assoc]
    exact Nat.le_trans (Nat.mul_le_mul_right _ (by omega)) hb.out)
   have hm : IntKind.u8.wrap ((N' : Int) % 10) = ((N' % 10 : Nat) : Int) := by rw [IntKind.wrap_u8]; omega
   clear hd hb
   go_wp2_with (at_builtin; refine wpList_append_dig _ rfl _ _ rfl wr.heap.size (N' % 10) _ l rfl rfl ?c1 ?c2 ?c3 ?_)
   case c1 =>
    refine (Lib.cell_of_heap (heap_last _ _) _).trans ?_
    rfl
   case c2 => exact hv.ext ((Ext.refl _).alloc _)
   case c3 => omega
   intro v' w2 hv' x2
   go_wp2_with fail
   go_roundw
   case rel => exact ⟨N' / 10, (N' % 10) :: l, rfl, by omega, hv', hd2, hb2, by simp only [List.length_cons]; omega, (hx.alloc _).trans x2⟩
   case measure => simp only [intOf]; omega
  ·obtain rfl : N' = 0 := by omega
   have hd' := hd.out
   rw [digs_zero, List.nil_append] at hd'
   have HD := Lib.hid hd'
   clear hd hd' hb
   go_wp2_with fail
   go_ret
   exact ⟨⟨_, rfl, by rw [HD.out]; exact hv⟩, hx⟩
set_option maxHeartbeats 2000000 in
set_option maxRecDepth 100000 in
theorem amount_any (m : Int) (w : World) (hm : I64 m) :
  Calls Tryz.prog 95 #[.int .i64 m] w fun e w' => (∃ v, e = .returned v ∧ DigV v (digs m.natAbs) w') ∧ Ext w w' := by
 obtain ⟨h1, h2⟩ := hm
 have C := fun w => digits_any m.natAbs w (by unfold W64; omega)
 by_cases h0 : m < 0
 ·have e1 : (m.natAbs : Int) = -(m + 1) + 1 := by omega
  rw [e1] at C
  go_enter Tryz.func95, Tryz.ntmps95
  go_wp2_with fail
  refine (C _).mono ?_
  rintro e w1 ⟨⟨v, rfl, hv⟩, x1⟩
  go_wp2_with fail
  go_ret
  exact ⟨⟨_, rfl, hv⟩, x1⟩
 ·have e1 : (m.natAbs : Int) = m := by omega
  rw [e1] at C
  go_enter Tryz.func95, Tryz.ntmps95
  go_wp2_with fail
  refine (C _).mono ?_
  rintro e w1 ⟨⟨v, rfl, hv⟩, x1⟩
  go_wp2_with fail
  go_ret
  exact ⟨⟨_, rfl, hv⟩, x1⟩
theorem DigV.at {b o c : Nat} {l : List Nat} {w : World} (h : DigV (.slice (some ⟨b, o, none⟩) l.length c) l w) (hn : 0 < l.length) : l.length ≤ c ∧ b < w.heap.size ∧ ∀ i (h : i < l.length), w.cell? ⟨b, o + i, none⟩ = some (.int .u8 (l[i] : Int)) := by
 rcases h with ⟨rfl, _⟩ | ⟨b', o', c', h1, h2, h3, h4⟩
 ·simp at hn
 ·injection h1 with h1 _ h5
  injection h1 with h1
  injection h1 with h6 h7 _
  subst h5 h6 h7
  exact ⟨h2, h3, h4⟩
theorem DigV.pos {v : Value} {l : List Nat} {w : World} (h : DigV v l w) (hn : 0 < l.length) : ∃ b o c, v = .slice (some ⟨b, o, none⟩) l.length c ∧ l.length ≤ c ∧ b < w.heap.size ∧ ∀ i (h : i < l.length), w.cell? ⟨b, o + i, none⟩ = some (.int .u8 (l[i] : Int)) := by
 rcases h with ⟨rfl, _⟩ | h
 ·simp at hn
 ·exact h
theorem trimD_zero (l : List Nat) : trimD (0 :: l) = trimD l := by unfold trimD; rw [List.dropWhile_cons, if_pos (by simp)]
theorem trimD_pos {d : Nat} (l : List Nat) (h : d ≠ 0) : trimD (d :: l) = d :: l := by unfold trimD; rw [List.dropWhile_cons, if_neg (by simpa using h)]
end Go.Proofs.YtjjnmefihdjglaaGreat
namespace Go.Proofs.YtjjnmefihdjglaaGreat
open Go.RowKit
set_option maxHeartbeats 4000000 in
set_option maxRecDepth 100000 in
theorem dcompare_any (v u : Value) (l m : List Nat) (w : World) (hv : DigV v l w) (hu : DigV u m w) (hl : l.length < 100000) (hm : m.length < 100000) :
  Calls Tryz.prog 96 #[v, u] w fun e w' => e = .returned (.int .i64 (cmpDg l m)) ∧ Ext w w' := by
 obtain ⟨p, c, rfl⟩ := hv.form
 obtain ⟨q, c', rfl⟩ := hu.form
 by_cases hlen : l.length = m.length
 ·have hc : Hid (cmpDg l m = cmpEq l m) := Lib.hid (by unfold cmpDg; rw [if_pos hlen])
  have nb : ((l.length : Int) != (m.length : Int)) = false := by simp; omega
  rw [hc.out]
  rw [← hlen] at hu ⊢
  clear nb
  have HL := Lib.hid hlen
  clear hlen
  go_enter Tryz.func96, Tryz.ntmps96
  go_wp2_with fail
  go_loopw [5] (fun i wr => ∃ i' : Nat, i = .int .i64 i' ∧ i' ≤ l.length ∧ Hid (cmpEq (l.drop i') (m.drop i') = cmpEq l m) ∧ Ext w wr) (fun i _ => l.length - (intOf i).toNat)
  case atStart => exact ⟨0, rfl, Nat.zero_le _, rfl, Ext.refl _⟩
  case round =>
   obtain ⟨i', rfl, hi, hcm, hx⟩ := hrel
   by_cases hlt : i' < l.length
   ·have hlt2 : i' < m.length := by rw [← HL.out]; exact hlt
    obtain ⟨b, o, _, hp, _, hb, hcell⟩ := hv.pos (by omega)
    injection hp with hp _ hp3
    subst hp hp3
    have hu3 : DigV (.slice q m.length c') m w := by rw [← HL.out]; exact hu
    obtain ⟨b', o', _, hq, _, hb', hcell'⟩ := hu3.pos (by omega)
    injection hq with hq _ hq3
    subst hq hq3
    clear hu3
    have c0 := (hx.cell (p := ⟨b, o + i', none⟩) hb).trans (hcell i' hlt)
    have d0 := (hx.cell (p := ⟨b', o' + i', none⟩) hb').trans (hcell' i' hlt2)
    have hcm2 := hcm.out
    rw [List.drop_eq_getElem_cons hlt, List.drop_eq_getElem_cons hlt2, cmpEq] at hcm2
    generalize l[i'] = x at *
    generalize m[i'] = y at *
    clear hcell hcell' hcm hlt2
    by_cases h1 : x < y
    ·rw [if_pos h1] at hcm2
     have HC := Lib.hid hcm2
     clear hcm2
     go_wp2_with fail
     go_quiet (fail)
     go_wp2_with fail
     go_ret
     exact ⟨retI HC.out, hx.drewN _⟩
    ·rw [if_neg h1] at hcm2
     by_cases h2 : y < x
     ·rw [if_pos h2] at hcm2
      have HC := Lib.hid hcm2
      clear hcm2
      go_wp2_with fail
      go_quiet (fail)
      go_wp2_with fail
      go_quiet (fail)
      go_wp2_with fail
      go_ret
      exact ⟨retI HC.out, (hx.drewN _).drewN _⟩
     ·rw [if_neg h2] at hcm2
      have HC := Lib.hid hcm2
      clear hcm2
      go_wp2_with fail
      go_quiet (fail)
      go_wp2_with fail
      go_quiet (fail)
      go_wp2_with fail
      go_roundw
      case rel => exact ⟨i' + 1, rfl, hlt, HC, hx.drewN _⟩
      case measure => simp only [intOf]; omega
   ·obtain rfl : i' = l.length := by omega
    have hcm2 := hcm.out
    rw [List.drop_length, HL.out, List.drop_length] at hcm2
    have HC : Hid (0 = cmpEq l m) := Lib.hid hcm2
    clear hcm hcm2
    go_wp2_with fail
    go_ret
    exact ⟨retI HC.out, hx⟩
 ·by_cases hlt : l.length < m.length
  ·have hc : Hid (cmpDg l m = -1) := Lib.hid (by unfold cmpDg; rw [if_neg hlen, if_pos hlt])
   go_enter Tryz.func96, Tryz.ntmps96
   go_wp2_with fail
   go_ret
   exact ⟨retI hc.out.symm, Ext.refl _⟩
  ·have hc : Hid (cmpDg l m = 1) := Lib.hid (by unfold cmpDg; rw [if_neg hlen, if_neg hlt])
   go_enter Tryz.func96, Tryz.ntmps96
   go_wp2_with fail
   go_ret
   exact ⟨retI hc.out.symm, Ext.refl _⟩
theorem valD_take_succ (l : List Nat) (i : Nat) (h : i < l.length) : valD (l.take (i + 1)) = valD (l.take i) * 10 + l[i] := by
 rw [List.take_succ_eq_append_getElem h, valD_snoc]
theorem valD_take_le (l : List Nat) (i : Nat) : valD (l.take i) ≤ valD l := by
 conv => rhs; rw [← List.take_append_drop i l, valD_append, foldl_val]
 have : 0 < 10 ^ (l.drop i).length := Nat.pow_pos (by omega)
 have := Nat.le_mul_of_pos_right (valD (l.take i)) this
 omega
end Go.Proofs.YtjjnmefihdjglaaGreat
namespace Go.Proofs.YtjjnmefihdjglaaGreat
open Go.RowKit
theorem strip_pos {N s : Nat} (h : 0 < N) : 0 < (strip N s).1 := by
 induction s generalizing N with
 | zero => exact h
 | succ s ih =>
   unfold strip
   split
   ·exact ih (by omega)
   ·exact h
def dotM (m : Int) (s : Nat) : Int := decMv (decide (m < 0)) m.natAbs s
def dotS (m : Int) (s : Nat) : Int := decSv m.natAbs s
end Go.Proofs.YtjjnmefihdjglaaGreat
namespace Go.Proofs.YtjjnmefihdjglaaGreat
open Go.RowKit
def canZ (z : Int) (s : Nat) : (Int × Int) × Bool := ((decMv (decide (z < 0)) z.natAbs s, decSv z.natAbs s), decOk z.natAbs s)
theorem strip_up (N s : Nat) : strip (N * 10) (s + 1) = strip N s := by
 rw [strip, if_pos (by omega)]
 congr 1; omega
theorem strip_ups (N s k : Nat) : strip (N * 10 ^ k) (s + k) = strip N s := by
 induction k with
 | zero => rw [Nat.pow_zero, Nat.mul_one, Nat.add_zero]
 | succ k ih => rw [Nat.pow_succ, ← Nat.mul_assoc, ← Nat.add_assoc, strip_up, ih]
theorem canZ_ups (z : Int) (s k : Nat) : canZ (z * 10 ^ k) (s + k) = canZ z s := by
 have h1 : (z * 10 ^ k).natAbs = z.natAbs * 10 ^ k := by rw [Int.natAbs_mul, Int.natAbs_pow]; rfl
 have hp : (0 : Int) < 10 ^ k := Int.pow_pos (by omega)
 have h2 : decide (z * 10 ^ k < 0) = decide (z < 0) := by
  apply decide_eq_decide.2
  constructor
  ·intro h
   by_cases h0 : 0 ≤ z
   ·exact absurd (Int.mul_nonneg h0 (Int.le_of_lt hp)) (by omega)
   ·omega
  ·intro h; exact Int.mul_neg_of_neg_of_pos h hp
 unfold canZ decMv decSv decOk
 rw [h1, h2, strip_ups]
theorem canZ_eq {z1 z2 : Int} {s1 s2 : Nat} (h : z1 * 10 ^ s2 = z2 * 10 ^ s1) : canZ z1 s1 = canZ z2 s2 := by
 rw [← canZ_ups z1 s1 s2, h, Nat.add_comm, canZ_ups]
theorem canZ_neg (n : Bool) (z : Int) (s : Nat) (h : z ≠ 0 → n = decide (z < 0)) : decMv n z.natAbs s = decMv (decide (z < 0)) z.natAbs s := by
 by_cases h0 : z = 0
 ·subst h0
  unfold decMv
  rw [show (0 : Int).natAbs = 0 from rfl, strip_zero]
  cases n <;> rfl
 ·rw [h h0]
theorem strip_good (N s : Nat) (h : s = 0 ∨ N % 10 ≠ 0) : strip N s = (N, s) := by
 cases s with
 | zero => rfl
 | succ s => rw [strip, if_neg (by omega)]
theorem strip_spec : ∀ (s N : Nat), N = (strip N s).1 * 10 ^ (s - (strip N s).2) ∧ (strip N s).2 ≤ s ∧ ((strip N s).2 = 0 ∨ (strip N s).1 % 10 ≠ 0)
 | 0, N => ⟨by simp [strip], Nat.le_refl _, .inl rfl⟩
 | s + 1, N => by
   rw [strip]
   by_cases h : N % 10 = 0
   ·rw [if_pos h]
    obtain ⟨h1, h2, h3⟩ := strip_spec s (N / 10)
    refine ⟨?_, by omega, h3⟩
    rw [show s + 1 - (strip (N / 10) s).2 = (s - (strip (N / 10) s).2) + 1 from by omega, Nat.pow_succ, ← Nat.mul_assoc, ← h1]
    omega
   ·rw [if_neg h]
    exact ⟨by simp, Nat.le_refl _, .inr h⟩
theorem good_of {M S : Int} (h : goodB M S = true) : (0 ≤ S ∧ S ≤ 18) ∧ (S = 0 ∨ M.natAbs % 10 ≠ 0) := by
 unfold goodB at h
 simp only [decide_eq_true_eq] at h
 refine ⟨⟨h.1, h.2.1⟩, h.2.2.2.imp_right (fun h1 h2 => h1 ?_)⟩
 have : M.tmod 10 = M.sign * ((M.natAbs % 10 : Nat) : Int) := by
  cases M with
  | ofNat n => cases n <;> simp [Int.tmod, Int.sign] <;> omega
  | negSucc n => simp [Int.tmod, Int.sign, Int.natAbs]
 rw [this, h2]; simp
theorem good_mk {M S : Int} (h0 : 0 ≤ S) (h1 : S ≤ 18) (h2 : -9223372036854775807 ≤ M) (h : S = 0 ∨ M.natAbs % 10 ≠ 0) : goodB M S = true := by
 unfold goodB
 simp only [decide_eq_true_eq]
 refine ⟨h0, h1, by omega, h.imp_right (fun h3 h4 => h3 ?_)⟩
 have : (M.tmod 10).natAbs = M.natAbs % 10 := by rw [Int.natAbs_tmod]; rfl
 rw [h4] at this
 simpa using this.symm
theorem canZ_good {M S : Int} (h : goodB M S = true) (hM : I64 M) : canZ M S.toNat = ((M, S), true) := by
 obtain ⟨⟨h1, h2⟩, h3⟩ := good_of h
 obtain ⟨_, _, h4⟩ := good_range h
 unfold I64 at hM
 have hs := strip_good M.natAbs S.toNat (by omega)
 have ok : decOk M.natAbs S.toNat = true := by unfold decOk; rw [hs]; simp only [decide_eq_true_eq]; omega
 unfold canZ decMv decSv
 rw [ok, if_pos rfl, if_pos rfl, hs]
 congr 1
 congr 1
 ·by_cases hn : M < 0
  ·rw [decide_eq_true hn, if_pos rfl]; simp only []; omega
  ·rw [decide_eq_false hn, if_neg (by decide)]; simp only []; omega
 ·simp only []; omega
theorem canZ_is_good (z : Int) (s : Nat) : goodB (canZ z s).1.1 (canZ z s).1.2 = true ∧ I64 (canZ z s).1.1 := by
 unfold canZ
 have hm := decMv_range (decide (z < 0)) z.natAbs s
 have hs := decSv_range z.natAbs s
 refine ⟨good_mk hs.1 hs.2 hm.1 ?_, by unfold I64; simp only []; omega⟩
 simp only []
 by_cases ok : decOk z.natAbs s = true
 ·unfold decMv decSv
  rw [ok, if_pos rfl, if_pos rfl]
  obtain ⟨_, _, h3⟩ := strip_spec s z.natAbs
  rcases h3 with h3 | h3
  ·left; omega
  ·right
   by_cases hn : decide (z < 0) = true
   ·rw [if_pos hn]; omega
   ·rw [if_neg hn]; omega
 ·left
  unfold decSv
  rw [if_neg ok]
theorem canZ_bad {z : Int} {s : Nat} (h : (canZ z s).2 = false) : (canZ z s).1 = (0, 0) := by
 unfold canZ at *
 simp only [] at h
 unfold decMv decSv
 rw [h]; rfl
theorem canZ_val {z : Int} {s : Nat} (h : (canZ z s).2 = true) : (canZ z s).1.1 * 10 ^ (s - (canZ z s).1.2.toNat) = z ∧ (canZ z s).1.2.toNat ≤ s ∧ (canZ z s).1.2 ≤ 18 := by
 have hs := decSv_range z.natAbs s
 obtain ⟨h1, h2, _⟩ := strip_spec s z.natAbs
 unfold canZ at *
 simp only [] at h ⊢
 refine ⟨?_, ?_, hs.2⟩
 ·unfold decMv decSv
  rw [h, if_pos rfl, if_pos rfl, Int.toNat_natCast]
  generalize strip z.natAbs s = p at *
  by_cases hn : z < 0
  ·rw [decide_eq_true hn, if_pos rfl, Int.neg_mul]
   have : ((z.natAbs : Nat) : Int) = (p.1 : Int) * 10 ^ (s - p.2) := by rw [h1]; push_cast; rfl
   omega
  ·rw [decide_eq_false hn, if_neg (by decide)]
   have : ((z.natAbs : Nat) : Int) = (p.1 : Int) * 10 ^ (s - p.2) := by rw [h1]; push_cast; rfl
   omega
 ·unfold decSv
  rw [h, if_pos rfl, Int.toNat_natCast]; exact h2
def v18 (M S : Int) : Int := M * 10 ^ (18 - S).toNat
theorem canZ_v18 {M S : Int} (h : goodB M S = true) (hM : I64 M) : canZ (v18 M S) 18 = ((M, S), true) := by
 obtain ⟨h1, h2, _⟩ := good_range h
 rw [← canZ_good h hM]
 apply canZ_eq
 unfold v18
 rw [Int.mul_assoc, ← Int.pow_add]
 congr 2; omega
theorem v18_canZ {z : Int} (h : (canZ z 18).2 = true) : v18 (canZ z 18).1.1 (canZ z 18).1.2 = z := by
 obtain ⟨h1, h2, h3⟩ := canZ_val h
 have h4 : 0 ≤ (canZ z 18).1.2 := (decSv_range _ _).1
 unfold v18
 rw [show (18 - (canZ z 18).1.2).toNat = 18 - (canZ z 18).1.2.toNat from by omega]
 exact h1
end Go.Proofs.YtjjnmefihdjglaaGreat
namespace Go.Proofs.YtjjnmefihdjglaaGreat
open Go.RowKit
def sg (z : Int) : Int := if z < 0 then -1 else if 0 < z then 1 else 0
theorem pow_pos10 (k : Nat) : (0 : Int) < 10 ^ k := Int.pow_pos (by omega)
theorem natAbs_mul10 (m : Int) (k : Nat) : (m * 10 ^ k).natAbs = m.natAbs * 10 ^ k := by rw [Int.natAbs_mul, Int.natAbs_pow]; rfl
theorem neg_mul10 (m : Int) (k : Nat) : decide (m * 10 ^ k < 0) = decide (m < 0) := by
 have hp := pow_pos10 k
 apply decide_eq_decide.2
 constructor
 ·intro h
  by_cases h0 : 0 ≤ m
  ·exact absurd (Int.mul_nonneg h0 (Int.le_of_lt hp)) (by omega)
  ·omega
 ·intro h; exact Int.mul_neg_of_neg_of_pos h hp
theorem sg_mul10 (z : Int) (k : Nat) : sg (z * 10 ^ k) = sg z := by
 have hp := pow_pos10 k
 unfold sg
 by_cases h : z < 0
 ·rw [if_pos h, if_pos (Int.mul_neg_of_neg_of_pos h hp)]
 ·by_cases h0 : 0 < z
  ·have := Int.mul_pos h0 hp
   rw [if_neg h, if_pos h0, if_neg (by omega), if_pos this]
  ·obtain rfl : z = 0 := by omega
   rw [Int.zero_mul]
theorem scN_abs (M S s : Int) : scN M S s = (M * 10 ^ (s - S).toNat).natAbs := by rw [natAbs_mul10]; rfl
theorem nplus_int (a b : Int) : nplusN (decide (a < 0)) a.natAbs (decide (b < 0)) b.natAbs = (a + b).natAbs ∧ (a + b ≠ 0 → nplusS (decide (a < 0)) a.natAbs (decide (b < 0)) b.natAbs = decide (a + b < 0)) := by
 have tf : ¬(true = false) := by decide
 have ft : ¬(false = true) := by decide
 unfold nplusN nplusS
 by_cases ha : a < 0 <;> by_cases hb : b < 0
 ·rw [decide_eq_true ha, decide_eq_true hb, if_pos rfl, if_pos rfl]
  exact ⟨by omega, fun _ => (decide_eq_true (by omega)).symm⟩
 ·rw [decide_eq_true ha, decide_eq_false hb, if_neg tf, if_neg tf]
  by_cases h : b.natAbs ≤ a.natAbs
  ·rw [if_pos h, if_pos h]; exact ⟨by omega, fun h0 => (decide_eq_true (by omega)).symm⟩
  ·rw [if_neg h, if_neg h]; exact ⟨by omega, fun h0 => (decide_eq_false (by omega)).symm⟩
 ·rw [decide_eq_false ha, decide_eq_true hb, if_neg ft, if_neg ft]
  by_cases h : b.natAbs ≤ a.natAbs
  ·rw [if_pos h, if_pos h]; exact ⟨by omega, fun h0 => (decide_eq_false (by omega)).symm⟩
  ·rw [if_neg h, if_neg h]; exact ⟨by omega, fun h0 => (decide_eq_true (by omega)).symm⟩
 ·rw [decide_eq_false ha, decide_eq_false hb, if_pos rfl, if_pos rfl]
  exact ⟨by omega, fun _ => (decide_eq_false (by omega)).symm⟩
theorem ncmp_int (a b : Int) : ncmp (decide (a < 0)) a.natAbs (decide (b < 0)) b.natAbs = sg (a - b) := by
 unfold ncmp sg cmpN
 by_cases ha : a < 0 <;> by_cases hb : b < 0
 ·rw [decide_eq_true ha, decide_eq_true hb, if_pos rfl, if_pos rfl]
  by_cases h : b.natAbs < a.natAbs
  ·rw [if_pos h, if_pos (by omega)]
  ·rw [if_neg h]
   by_cases h2 : b.natAbs > a.natAbs
   ·rw [if_pos h2, if_neg (by omega), if_pos (by omega)]
   ·rw [if_neg h2, if_neg (by omega), if_neg (by omega)]
 ·rw [decide_eq_true ha, decide_eq_false hb, if_pos rfl, if_neg (by decide), if_pos (by omega)]
 ·rw [decide_eq_false ha, decide_eq_true hb, if_neg (by decide), if_pos rfl, if_neg (by omega), if_pos (by omega)]
 ·rw [decide_eq_false ha, decide_eq_false hb, if_neg (by decide), if_neg (by decide)]
  by_cases h : a.natAbs < b.natAbs
  ·rw [if_pos h, if_pos (by omega)]
  ·rw [if_neg h]
   by_cases h2 : a.natAbs > b.natAbs
   ·rw [if_pos h2, if_neg (by omega), if_pos (by omega)]
   ·rw [if_neg h2, if_neg (by omega), if_neg (by omega)]
theorem to18 (m S : Int) (s : Nat) (h0 : S ≤ s) (h1 : S ≤ 18) : m * 10 ^ ((s : Int) - S).toNat * 10 ^ 18 = v18 m S * 10 ^ s := by
 unfold v18
 rw [Int.mul_assoc, ← Int.pow_add, Int.mul_assoc, ← Int.pow_add]
 congr 2; omega
theorem add_is (m1 s1 m2 s2 : Int) (h1 : 0 ≤ s1 ∧ s1 ≤ 18) (h2 : 0 ≤ s2 ∧ s2 ≤ 18) : ((addM m1 s1 m2 s2, addS m1 s1 m2 s2), addOk m1 s1 m2 s2) = canZ (v18 m1 s1 + v18 m2 s2) 18 := by
 obtain ⟨s, hs⟩ : ∃ s : Nat, max s1 s2 = (s : Int) := ⟨(max s1 s2).toNat, by omega⟩
 have e : canZ (v18 m1 s1 + v18 m2 s2) 18 = canZ (m1 * 10 ^ ((s : Int) - s1).toNat + m2 * 10 ^ ((s : Int) - s2).toNat) s := by
  apply canZ_eq
  rw [Int.add_mul, Int.add_mul, ← to18 m1 s1 s (by omega) h1.2, ← to18 m2 s2 s (by omega) h2.2]
 rw [e]
 have hn : addN m1 s1 m2 s2 = (m1 * 10 ^ ((s : Int) - s1).toNat + m2 * 10 ^ ((s : Int) - s2).toNat).natAbs := by
  unfold addN
  rw [hs, scN_abs, scN_abs, ← neg_mul10 m1 ((s : Int) - s1).toNat, ← neg_mul10 m2 ((s : Int) - s2).toNat]
  exact (nplus_int _ _).1
 have hb : m1 * 10 ^ ((s : Int) - s1).toNat + m2 * 10 ^ ((s : Int) - s2).toNat ≠ 0 → addB m1 s1 m2 s2 = decide (m1 * 10 ^ ((s : Int) - s1).toNat + m2 * 10 ^ ((s : Int) - s2).toNat < 0) := by
  unfold addB
  rw [hs, scN_abs, scN_abs, ← neg_mul10 m1 ((s : Int) - s1).toNat, ← neg_mul10 m2 ((s : Int) - s2).toNat]
  exact (nplus_int _ _).2
 unfold addM addS addOk
 rw [hn, hs, Int.toNat_natCast]
 unfold canZ
 rw [canZ_neg _ _ _ hb]
theorem mul_is (m1 s1 m2 s2 : Int) (g1 : goodB m1 s1 = true) (g2 : goodB m2 s2 = true) : ((mulM m1 s1 m2 s2, mulS m1 s1 m2 s2), mulOk m1 s1 m2 s2) = canZ (m1 * m2) (s1 + s2).toNat := by
 unfold mulM mulS mulOk canZ
 rw [g1, g2, Bool.and_self, if_pos rfl, if_pos rfl, Bool.true_and, Bool.true_and, ← Int.natAbs_mul]
 rw [canZ_neg (decide (m1 < 0) != decide (m2 < 0)) (m1 * m2)]
 intro h0
 have n1 : m1 ≠ 0 := fun h => h0 (by rw [h, Int.zero_mul])
 have n2 : m2 ≠ 0 := fun h => h0 (by rw [h, Int.mul_zero])
 by_cases ha : m1 < 0 <;> by_cases hb : m2 < 0
 ·rw [decide_eq_true ha, decide_eq_true hb, decide_eq_false (by have := Int.mul_pos_of_neg_of_neg ha hb; omega)]; rfl
 ·rw [decide_eq_true ha, decide_eq_false hb, decide_eq_true (Int.mul_neg_of_neg_of_pos ha (by omega))]; rfl
 ·rw [decide_eq_false ha, decide_eq_true hb, decide_eq_true (Int.mul_neg_of_pos_of_neg (by omega) hb)]; rfl
 ·rw [decide_eq_false ha, decide_eq_false hb, decide_eq_false (by have := Int.mul_pos (show 0 < m1 by omega) (show 0 < m2 by omega); omega)]; rfl
theorem cmp_is (m1 s1 m2 s2 : Int) (h1 : 0 ≤ s1 ∧ s1 ≤ 18) (h2 : 0 ≤ s2 ∧ s2 ≤ 18) : cmpD m1 s1 m2 s2 = sg (v18 m1 s1 - v18 m2 s2) := by
 obtain ⟨s, hs⟩ : ∃ s : Nat, max s1 s2 = (s : Int) := ⟨(max s1 s2).toNat, by omega⟩
 unfold cmpD
 rw [hs, scN_abs, scN_abs, ← neg_mul10 m1 ((s : Int) - s1).toNat, ← neg_mul10 m2 ((s : Int) - s2).toNat, ncmp_int]
 rw [← sg_mul10 _ 18, ← sg_mul10 (v18 m1 s1 - v18 m2 s2) s, Int.sub_mul, Int.sub_mul, to18 m1 s1 s (by omega) h1.2, to18 m2 s2 s (by omega) h2.2]
theorem v18_zero (s : Int) : v18 0 s = 0 := by unfold v18; rw [Int.zero_mul]
theorem zero_left {M S : Int} (g : goodB M S = true) (hM : I64 M) : addOk 0 0 M S = true ∧ addM 0 0 M S = M ∧ addS 0 0 M S = S := by
 obtain ⟨a1, a2, _⟩ := good_range g
 have h := add_is 0 0 M S (by omega) ⟨a1, a2⟩
 rw [v18_zero, Int.zero_add, canZ_v18 g hM] at h
 simp only [Prod.mk.injEq] at h
 exact ⟨h.2, h.1.1, h.1.2⟩
theorem sum_two {m1 s1 m2 s2 : Int} (g1 : goodB m1 s1 = true) (g2 : goodB m2 s2 = true) (i1 : I64 m1) : sumL 0 0 [(m1, s1), (m2, s2)] = canZ (v18 m1 s1 + v18 m2 s2) 18 := by
 obtain ⟨a1, a2, _⟩ := good_range g1
 obtain ⟨b1, b2, _⟩ := good_range g2
 obtain ⟨h1, h2, h3⟩ := zero_left g1 i1
 have h := add_is m1 s1 m2 s2 ⟨a1, a2⟩ ⟨b1, b2⟩
 rw [sumL_cons]
 simp only []
 rw [if_pos g1, if_pos h1, h2, h3, sumL_cons]
 simp only []
 rw [if_pos g2, ← h]
 by_cases ok : addOk m1 s1 m2 s2 = true
 ·rw [if_pos ok, ok]; rfl
 ·have ok' : addOk m1 s1 m2 s2 = false := by simpa using ok
  have h4 : (canZ (v18 m1 s1 + v18 m2 s2) 18).2 = false := by rw [← h]; exact ok'
  have h5 := canZ_bad h4
  rw [← h] at h5
  rw [if_neg ok]
  simp only [] at h5
  rw [h5, ok']
theorem cM_good {M S : Int} (g : goodB M S = true) : cM M S = M ∧ cS M S = S := by unfold cM cS; rw [if_pos g, if_pos g]; exact ⟨rfl, rfl⟩
theorem neg_good {M S : Int} (g : goodB M S = true) (hM : I64 M) : goodB (-M) S = true ∧ I64 (-M) := by
 obtain ⟨⟨h1, h2⟩, h3⟩ := good_of g
 obtain ⟨_, _, h4⟩ := good_range g
 unfold I64 at *
 exact ⟨good_mk h1 h2 (by omega) (by rw [Int.natAbs_neg]; exact h3), by omega⟩
theorem v18_neg (M S : Int) : v18 (-M) S = -v18 M S := by unfold v18; rw [Int.neg_mul]
theorem good_zero : goodB 0 0 = true := by decide
theorem good_one : goodB 1 0 = true := by decide
theorem canZ_zero (s : Nat) : canZ 0 s = ((0, 0), true) := by
 have h : canZ 0 0 = ((0, 0), true) := by decide
 rw [← h]; apply canZ_eq; omega
theorem decOk0 (N : Nat) : decOk N 0 = decide (N ≤ 9223372036854775807) := by unfold decOk; simp [strip]
theorem canZ2 (z : Int) (s : Nat) : (canZ z s).2 = decOk z.natAbs s := rfl
theorem sc_is {M S : Int} (g : goodB M S = true) (s : Int) (h0 : S ≤ s) (h1 : s ≤ 18) : scM M S s = (canZ (M * 10 ^ (s - S).toNat) 0).1.1 ∧ scOk M S s = (canZ (M * 10 ^ (s - S).toNat) 0).2 := by
 have hi : scIn M S s = true := by unfold scIn; rw [g, decide_eq_true h0, decide_eq_true h1]; rfl
 unfold scM scOk canZ
 rw [hi, if_pos rfl, Bool.true_and, scN_abs, ← neg_mul10 M (s - S).toNat]
 exact ⟨rfl, rfl⟩
theorem sc_out {M S s : Int} (h : s < S ∨ 18 < s) : scM M S s = 0 ∧ scOk M S s = false := by
 have hi : scIn M S s = false := by unfold scIn; simp; intro _ _; omega
 unfold scM scOk
 rw [hi]; exact ⟨rfl, rfl⟩
theorem sc_val {M S : Int} (g : goodB M S = true) (s : Int) (h0 : S ≤ s) (h1 : s ≤ 18) (h : scOk M S s = true) : scM M S s = M * 10 ^ (s - S).toNat := by
 obtain ⟨e1, e2⟩ := sc_is g s h0 h1
 rw [e2] at h
 obtain ⟨h3, _, _⟩ := canZ_val h
 rw [Nat.zero_sub, Int.pow_zero, Int.mul_one] at h3
 rw [e1, h3]
theorem sc_back {M S : Int} (g : goodB M S = true) (hM : I64 M) (s : Nat) (h0 : S ≤ s) (h1 : (s : Int) ≤ 18) (h : scOk M S s = true) : canZ (scM M S s) s = ((M, S), true) := by
 obtain ⟨a1, a2, _⟩ := good_range g
 rw [sc_val g s h0 h1 h, ← canZ_good g hM]
 apply canZ_eq
 rw [Int.mul_assoc, ← Int.pow_add]
 congr 2; omega
theorem sc_down {M S : Int} (g : goodB M S = true) (s : Int) (h0 : S ≤ s) (h1 : s + 1 ≤ 18) (h : scOk M S (s + 1) = true) : scOk M S s = true := by
 obtain ⟨_, e2⟩ := sc_is g (s + 1) (by omega) h1
 obtain ⟨_, e3⟩ := sc_is g s h0 (by omega)
 rw [e3, canZ2, decOk0, natAbs_mul10]
 rw [e2, canZ2, decOk0, natAbs_mul10, show (s + 1 - S).toNat = (s - S).toNat + 1 from by omega, Nat.pow_succ, ← Nat.mul_assoc] at h
 simp only [decide_eq_true_eq] at *
 omega
theorem sc_same {M S : Int} (g : goodB M S = true) (hM : I64 M) : scOk M S S = true ∧ scM M S S = M := by
 obtain ⟨a1, a2, a3⟩ := good_range g
 have h : scOk M S S = true := by
  rw [(sc_is g S (by omega) a2).2, Int.sub_self, canZ2, decOk0, show ((0 : Int).toNat) = 0 from rfl, Int.pow_zero, Int.mul_one]
  unfold I64 at hM
  simp only [decide_eq_true_eq]
  omega
 refine ⟨h, ?_⟩
 rw [sc_val g S (by omega) a2 h, Int.sub_self, show ((0 : Int).toNat) = 0 from rfl, Int.pow_zero, Int.mul_one]
end Go.Proofs.YtjjnmefihdjglaaGreat
namespace Go.Proofs.YtjjnmefihdjglaaGreat
open Go.RowKit
theorem coprime10 {m : Nat} (h2 : m % 2 ≠ 0) (h5 : m % 5 ≠ 0) (e : Nat) : Nat.Coprime m (10 ^ e) := by
 apply Nat.Coprime.pow_right
 have c2 : Nat.Coprime m 2 := by
  unfold Nat.Coprime
  rw [Nat.gcd_comm, Nat.gcd_rec, show m % 2 = 1 from by omega]; decide
 have c5 : Nat.Coprime m 5 := by
  unfold Nat.Coprime
  rw [Nat.gcd_comm, Nat.gcd_rec]
  have : m % 5 = 1 ∨ m % 5 = 2 ∨ m % 5 = 3 ∨ m % 5 = 4 := by omega
  rcases this with h | h | h | h <;> (rw [h]; decide)
 exact Nat.Coprime.mul_right c2 c5
theorem ovP_low (T k2 k5 : Nat) : ovP T k2 k5 * (5 ^ k5 * 2 ^ k2) = T * 10 ^ (max k2 k5) := by
 unfold ovP
 have e2 : 2 ^ (max k2 k5 - k2) * 2 ^ k2 = 2 ^ max k2 k5 := by rw [← Nat.pow_add]; congr 1; omega
 have e5 : 5 ^ (max k2 k5 - k5) * 5 ^ k5 = 5 ^ max k2 k5 := by rw [← Nat.pow_add]; congr 1; omega
 have e10 : (10 : Nat) ^ max k2 k5 = 2 ^ max k2 k5 * 5 ^ max k2 k5 := by rw [← Nat.mul_pow]
 rw [e10, ← e2, ← e5]
 simp only [Nat.mul_assoc, Nat.mul_left_comm, Nat.mul_comm]
theorem over_nat {a b c g m k2 k5 e : Nat} (hb : 0 < b) (hg : g = Nat.gcd c b) (hc : c * 10 ^ e = a * b) (hL : b / g = m * 5 ^ k5 * 2 ^ k2) (h5 : m % 5 ≠ 0) (h2 : m % 2 ≠ 0) :
  m = 1 ∧ ovP (c / g) k2 k5 * 10 ^ e = a * 10 ^ (max k2 k5) := by
 have hg0 : 0 < g := by rw [hg]; exact Nat.gcd_pos_of_pos_right _ hb
 have d1 : c / g * g = c := Nat.div_mul_cancel (by rw [hg]; exact Nat.gcd_dvd_left _ _)
 have d2 : b / g * g = b := Nat.div_mul_cancel (by rw [hg]; exact Nat.gcd_dvd_right _ _)
 have cop : Nat.Coprime (c / g) (b / g) := by rw [hg]; exact Nat.coprime_div_gcd_div_gcd (by rw [← hg]; exact hg0)
 have hL0 : 0 < b / g := Nat.div_pos (Nat.le_of_dvd hb (by rw [hg]; exact Nat.gcd_dvd_right _ _)) hg0
 have hTL : c / g * 10 ^ e = a * (b / g) := by
  apply Nat.eq_of_mul_eq_mul_right hg0
  rw [Nat.mul_right_comm, d1, hc, Nat.mul_assoc, d2]
 have hdv : b / g ∣ 10 ^ e := Nat.Coprime.dvd_of_dvd_mul_left cop.symm (by rw [hTL]; exact Nat.dvd_mul_left _ _)
 have hm : m ∣ 10 ^ e := Nat.dvd_trans (by rw [hL, Nat.mul_assoc]; exact Nat.dvd_mul_right _ _) hdv
 have hm1 : m = 1 := Nat.Coprime.eq_one_of_dvd (coprime10 h2 h5 e) hm
 refine ⟨hm1, ?_⟩
 rw [hm1, Nat.one_mul] at hL
 apply Nat.eq_of_mul_eq_mul_right hL0
 rw [Nat.mul_right_comm, hL, ovP_low, Nat.mul_right_comm, hTL, hL]
 simp only [Nat.mul_assoc, Nat.mul_left_comm, Nat.mul_comm]
theorem over_scale {W a p q r K e : Nat} (he : e + r = p + q) (h : W * 10 ^ e = a * 10 ^ K) :
  (K + r < q → W * 10 ^ (q - r - K) * 10 ^ p = a) ∧ (q ≤ K + r → W * 10 ^ p = a * 10 ^ (K + r - q)) := by
 have hp : ∀ k, 0 < (10 : Nat) ^ k := fun k => Nat.pow_pos (by omega)
 constructor
 ·intro hlt
  apply Nat.eq_of_mul_eq_mul_right (hp K)
  rw [← h, Nat.mul_assoc, Nat.mul_assoc, ← Nat.pow_add, ← Nat.pow_add]
  congr 2; omega
 ·intro hle
  by_cases hq : r ≤ q
  ·apply Nat.eq_of_mul_eq_mul_right (hp (q - r))
   rw [Nat.mul_assoc, Nat.mul_assoc, ← Nat.pow_add, ← Nat.pow_add, show p + (q - r) = e from by omega, show K + r - q + (q - r) = K from by omega]
   exact h
  ·rw [show p = e + (r - q) from by omega, show K + r - q = K + (r - q) from by omega, Nat.pow_add, Nat.pow_add, ← Nat.mul_assoc, h, Nat.mul_assoc]
theorem over_is {A s1 B s2 : Int} (gA : goodB A s1 = true) (iA : I64 A) (gB : goodB B s2 = true) (hB : B ≠ 0) (ok : (canZ (A * B) (s1 + s2).toNat).2 = true) {m k2 k5 : Nat}
  (hL : B.natAbs / Nat.gcd (canZ (A * B) (s1 + s2).toNat).1.1.natAbs B.natAbs = m * 5 ^ k5 * 2 ^ k2) (h5 : m % 5 ≠ 0) (h2 : m % 2 ≠ 0) :
  ovE (canZ (A * B) (s1 + s2).toNat).1.1 B (canZ (A * B) (s1 + s2).toNat).1.2 s2 m k2 k5 = .returned (.tuple #[decV A s1, .bool true]) := by
 obtain ⟨a1, a2, _⟩ := good_range gA
 obtain ⟨b1, b2, _⟩ := good_range gB
 obtain ⟨v1, v2, v3⟩ := canZ_val ok
 have c0 : 0 ≤ (canZ (A * B) (s1 + s2).toNat).1.2 := (decSv_range _ _).1
 generalize (canZ (A * B) (s1 + s2).toNat).1.1 = C at *
 generalize (canZ (A * B) (s1 + s2).toNat).1.2 = Sc at *
 have hn : C.natAbs * 10 ^ ((s1 + s2).toNat - Sc.toNat) = A.natAbs * B.natAbs := by rw [← natAbs_mul10, v1, Int.natAbs_mul]
 obtain ⟨rfl, hW⟩ := over_nat (by omega) rfl hn hL h5 h2
 unfold ovE
 rw [if_pos rfl]
 generalize C.natAbs / Nat.gcd C.natAbs B.natAbs = T at *
 obtain ⟨hs1, hs2⟩ := over_scale (p := s1.toNat) (q := s2.toNat) (r := Sc.toNat) (by omega) hW
 obtain ⟨N, hN⟩ : ∃ N, N = ovN T k2 k5 Sc s2 := ⟨_, rfl⟩
 obtain ⟨t, ht⟩ : ∃ t, t = (ovS k2 k5 Sc s2).toNat := ⟨_, rfl⟩
 have hNt : N * 10 ^ s1.toNat = A.natAbs * 10 ^ t := by
  rw [hN, ht]
  unfold ovN
  by_cases hneg : ovS k2 k5 Sc s2 < 0
  ·rw [if_pos hneg, show (ovS k2 k5 Sc s2).toNat = 0 from by omega, Nat.pow_zero, Nat.mul_one]
   unfold ovS at *
   rw [show (-(((max k2 k5 : Nat) : Int) + (Sc - s2))).toNat = s2.toNat - Sc.toNat - max k2 k5 from by omega]
   exact hs1 (by omega)
  ·rw [if_neg hneg]
   unfold ovS at *
   rw [show (((max k2 k5 : Nat) : Int) + (Sc - s2)).toNat = max k2 k5 + Sc.toNat - s2.toNat from by omega]
   exact hs2 (by omega)
 rw [← hN, ← ht]
 obtain ⟨z, hz⟩ : ∃ z : Int, z = if A < 0 then -(N : Int) else (N : Int) := ⟨_, rfl⟩
 have hzN : N = z.natAbs := by rw [hz]; split <;> omega
 have hzA : z * 10 ^ s1.toNat = A * 10 ^ t := by
  have h1 : (N : Int) * 10 ^ s1.toNat = (A.natAbs : Int) * 10 ^ t := by exact_mod_cast hNt
  rw [hz]
  by_cases hA : A < 0
  ·rw [if_pos hA, Int.neg_mul, h1, show (A.natAbs : Int) = -A from by omega, Int.neg_mul, Int.neg_neg]
  ·rw [if_neg hA, h1, show (A.natAbs : Int) = A from by omega]
 have hcan : canZ z t = ((A, s1), true) := by
  rw [← canZ_good gA iA]
  exact canZ_eq hzA
 have hsign : z ≠ 0 → (decide (C < 0) != decide (B < 0)) = decide (z < 0) := by
  intro hz0
  have hA0 : A ≠ 0 := by
   intro h
   rw [h, Int.zero_mul] at hzA
   rcases Int.mul_eq_zero.1 hzA with h1 | h1
   ·exact hz0 h1
   ·have := pow_pos10 s1.toNat; omega
  have hC : decide (C < 0) = decide (A * B < 0) := by rw [← v1, neg_mul10]
  have hz1 : decide (z < 0) = decide (A < 0) := by
   apply decide_eq_decide.2
   rw [hz]
   by_cases hA : A < 0
   ·rw [if_pos hA]; rw [hz, if_pos hA] at hz0; omega
   ·rw [if_neg hA]; omega
  rw [hC, hz1]
  by_cases ha : A < 0 <;> by_cases hb : B < 0
  ·rw [decide_eq_true ha, decide_eq_true hb, decide_eq_false (by have := Int.mul_pos_of_neg_of_neg ha hb; omega)]; rfl
  ·rw [decide_eq_true ha, decide_eq_false hb, decide_eq_true (Int.mul_neg_of_neg_of_pos ha (by omega))]; rfl
  ·rw [decide_eq_false ha, decide_eq_true hb, decide_eq_true (Int.mul_neg_of_pos_of_neg (by omega) hb)]; rfl
  ·rw [decide_eq_false ha, decide_eq_false hb, decide_eq_false (by have := Int.mul_pos (show 0 < A by omega) (show 0 < B by omega); omega)]; rfl
 rw [hzN, canZ_neg _ _ _ hsign]
 unfold canZ at hcan
 simp only [Prod.mk.injEq] at hcan
 rw [hcan.1.1, hcan.1.2, hcan.2]
end Go.Proofs.YtjjnmefihdjglaaGreat
namespace Go.Proofs.YtjjnmefihdjglaaGreat
open Go.RowKit
theorem dec_same {N Q t u : Nat} (b : Bool) (h : N * 10 ^ u = Q * 10 ^ t) : decMv b N t = decMv b Q u ∧ decSv N t = decSv Q u ∧ decOk N t = decOk Q u := by
 have key : ∀ (s : Int), s = 1 ∨ s = -1 → canZ (s * (N : Int)) t = canZ (s * (Q : Int)) u := by
  intro s _
  refine canZ_eq ?_
  rw [Int.mul_assoc, Int.mul_assoc]
  congr 1
  exact_mod_cast h
 have hn : ∀ (X : Nat), ((1 : Int) * (X : Int)).natAbs = X ∧ ((-1 : Int) * (X : Int)).natAbs = X := fun X => ⟨by omega, by omega⟩
 have k1 := key 1 (.inl rfl)
 have k2 := key (-1) (.inr rfl)
 unfold canZ at k1 k2
 simp only [Prod.mk.injEq] at k1 k2
 rw [(hn N).1, (hn Q).1] at k1
 rw [(hn N).2, (hn Q).2] at k2
 refine ⟨?_, k1.1.2, k1.2⟩
 cases b
 ·have := k1.1.1
  rw [decide_eq_false (by omega), decide_eq_false (by omega)] at this
  exact this
 ·have e1 := canZ_neg true (-1 * (N : Int)) t (fun h0 => (decide_eq_true (by omega)).symm)
  have e2 := canZ_neg true (-1 * (Q : Int)) u (fun h0 => (decide_eq_true (by omega)).symm)
  rw [(hn N).2] at e1
  rw [(hn Q).2] at e2
  rw [e1, e2]
  exact k2.1.1
def ovR (A s1 B s2 : Int) : (Int × Int) × Bool :=
 if A.natAbs * 10 ^ (18 + s2 - s1).toNat % B.natAbs = 0 then ((decMv (decide (A < 0) != decide (B < 0)) (A.natAbs * 10 ^ (18 + s2 - s1).toNat / B.natAbs) 18, decSv (A.natAbs * 10 ^ (18 + s2 - s1).toNat / B.natAbs) 18), decOk (A.natAbs * 10 ^ (18 + s2 - s1).toNat / B.natAbs) 18) else ((0, 0), false)
theorem over_ref {A s1 B s2 : Int} (h1 : 0 ≤ s1 ∧ s1 ≤ 18) (h2 : 0 ≤ s2 ∧ s2 ≤ 18) (hB : B ≠ 0) {m k2 k5 : Nat}
  (hL : B.natAbs / Nat.gcd A.natAbs B.natAbs = m * 5 ^ k5 * 2 ^ k2) (h5 : m % 5 ≠ 0) (hm2 : m % 2 ≠ 0) :
  ovE A B s1 s2 m k2 k5 = .returned (.tuple #[decV (ovR A s1 B s2).1.1 (ovR A s1 B s2).1.2, .bool (ovR A s1 B s2).2]) := by
 have hb : 0 < B.natAbs := by omega
 obtain ⟨E, hE⟩ : ∃ E, (18 + s2 - s1).toNat = E := ⟨_, rfl⟩
 unfold ovR ovE
 rw [hE]
 generalize (decide (A < 0) != decide (B < 0)) = neg at *
 generalize A.natAbs = a at *
 generalize B.natAbs = b at *
 have hg0 : 0 < Nat.gcd a b := Nat.gcd_pos_of_pos_right _ hb
 have d1 : a / Nat.gcd a b * Nat.gcd a b = a := Nat.div_mul_cancel (Nat.gcd_dvd_left _ _)
 have d2 : b / Nat.gcd a b * Nat.gcd a b = b := Nat.div_mul_cancel (Nat.gcd_dvd_right _ _)
 have cop : Nat.Coprime (a / Nat.gcd a b) (b / Nat.gcd a b) := Nat.coprime_div_gcd_div_gcd hg0
 rw [hL] at d2 cop
 generalize a / Nat.gcd a b = T at *
 generalize Nat.gcd a b = g at *
 have hL0 : 0 < m * 5 ^ k5 * 2 ^ k2 := by
  rcases Nat.eq_zero_or_pos (m * 5 ^ k5 * 2 ^ k2) with h | h
  ·rw [h, Nat.zero_mul] at d2; omega
  ·exact h
 have low := ovP_low T k2 k5
 -- what is left is nothing just when the divisor's part divides
 have hR : a * 10 ^ E % b = 0 ↔ m * 5 ^ k5 * 2 ^ k2 ∣ T * 10 ^ E := by
  rw [← Nat.dvd_iff_mod_eq_zero, ← d1, ← d2, Nat.mul_right_comm T g]
  exact Nat.mul_dvd_mul_iff_right hg0
 by_cases h0 : a * 10 ^ E % b = 0
 ·rw [if_pos h0]
  have hdv := hR.1 h0
  have hdv2 : m * 5 ^ k5 * 2 ^ k2 ∣ 10 ^ E := Nat.Coprime.dvd_of_dvd_mul_left cop.symm hdv
  have hm1 : m = 1 := Nat.Coprime.eq_one_of_dvd (coprime10 hm2 h5 E) (Nat.dvd_trans (by rw [Nat.mul_assoc]; exact Nat.dvd_mul_right _ _) hdv2)
  subst hm1
  rw [if_pos rfl]
  obtain ⟨Q, hQ⟩ : ∃ Q, a * 10 ^ E / b = Q := ⟨_, rfl⟩
  have hQb : Q * b = a * 10 ^ E := by rw [← hQ]; exact Nat.div_mul_cancel (Nat.dvd_of_mod_eq_zero h0)
  rw [Nat.one_mul] at d2 hL0
  have hQL : Q * (5 ^ k5 * 2 ^ k2) = T * 10 ^ E := by
   apply Nat.eq_of_mul_eq_mul_right hg0
   rw [Nat.mul_assoc, d2, hQb, ← d1, Nat.mul_right_comm]
  have hPQ : ovP T k2 k5 * 10 ^ E = Q * 10 ^ (max k2 k5) := by
   apply Nat.eq_of_mul_eq_mul_right hL0
   rw [Nat.mul_right_comm, low, Nat.mul_right_comm Q, hQL, Nat.mul_right_comm]
  obtain ⟨hs1, hs2⟩ := over_scale (W := ovP T k2 k5) (a := Q) (p := 18) (q := s2.toNat) (r := s1.toNat) (e := E) (K := max k2 k5) (by omega) hPQ
  have hNt : ovN T k2 k5 s1 s2 * 10 ^ 18 = Q * 10 ^ (ovS k2 k5 s1 s2).toNat := by
   unfold ovN
   by_cases hneg : ovS k2 k5 s1 s2 < 0
   ·rw [if_pos hneg, show (ovS k2 k5 s1 s2).toNat = 0 from by omega, Nat.pow_zero, Nat.mul_one]
    unfold ovS at *
    rw [show (-(((max k2 k5 : Nat) : Int) + (s1 - s2))).toNat = s2.toNat - s1.toNat - max k2 k5 from by omega]
    exact hs1 (by omega)
   ·rw [if_neg hneg]
    unfold ovS at *
    rw [show (((max k2 k5 : Nat) : Int) + (s1 - s2)).toNat = max k2 k5 + s1.toNat - s2.toNat from by omega]
    exact hs2 (by omega)
  obtain ⟨r1, r2, r3⟩ := dec_same neg hNt
  rw [hQ, r1, r2, r3]
 ·rw [if_neg h0]
  by_cases hm1 : m = 1
  ·subst hm1
   rw [if_pos rfl]
   rw [Nat.one_mul] at hR hL0
   have hno : ¬ 5 ^ k5 * 2 ^ k2 ∣ T * 10 ^ E := fun h => h0 (hR.2 h)
   have hKE : E < max k2 k5 := by
    rcases Nat.lt_or_ge E (max k2 k5) with h | h
    ·exact h
    ·exfalso
     apply hno
     refine ⟨ovP T k2 k5 * 10 ^ (E - max k2 k5), ?_⟩
     rw [← Nat.mul_assoc, Nat.mul_comm (5 ^ k5 * 2 ^ k2), low, Nat.mul_assoc, ← Nat.pow_add, show max k2 k5 + (E - max k2 k5) = E from by omega]
   have hS : ¬ ovS k2 k5 s1 s2 < 0 := by unfold ovS; omega
   have hN : ovN T k2 k5 s1 s2 = ovP T k2 k5 := by unfold ovN; rw [if_neg hS]
   have ht : (ovS k2 k5 s1 s2).toNat = max k2 k5 + s1.toNat - s2.toNat := by unfold ovS; omega
   have bad : decOk (ovN T k2 k5 s1 s2) (ovS k2 k5 s1 s2).toNat = false := by
    rw [hN, ht]
    cases hok : decOk (ovP T k2 k5) (max k2 k5 + s1.toNat - s2.toNat) with
    | false => rfl
    | true =>
      exfalso
      obtain ⟨v1, v2, v3⟩ := strip_spec (max k2 k5 + s1.toNat - s2.toNat) (ovP T k2 k5)
      have hle : (strip (ovP T k2 k5) (max k2 k5 + s1.toNat - s2.toNat)).2 ≤ 18 := (of_decide_eq_true hok).1
      generalize (strip (ovP T k2 k5) (max k2 k5 + s1.toNat - s2.toNat)).1 = M at *
      generalize (strip (ovP T k2 k5) (max k2 k5 + s1.toNat - s2.toNat)).2 = S at *
      apply hno
      refine ⟨M * 10 ^ (max k2 k5 + s1.toNat - s2.toNat - S - (max k2 k5 - E)), ?_⟩
      have hp : 0 < (10 : Nat) ^ (max k2 k5 - E) := Nat.pow_pos (by omega)
      apply Nat.eq_of_mul_eq_mul_right hp
      have e : 10 ^ (max k2 k5 + s1.toNat - s2.toNat - S) = 10 ^ (max k2 k5 + s1.toNat - s2.toNat - S - (max k2 k5 - E)) * 10 ^ (max k2 k5 - E) := by
       rw [← Nat.pow_add]
       congr 1
       omega
      rw [Nat.mul_assoc T, ← Nat.pow_add, show E + (max k2 k5 - E) = max k2 k5 from by omega, ← low, v1, e]
      simp only [Nat.mul_assoc, Nat.mul_comm, Nat.mul_left_comm]
   unfold decMv decSv
   rw [bad]
   rfl
  ·rw [if_neg hm1]
end Go.Proofs.YtjjnmefihdjglaaGreat
namespace Go.Proofs.YtjjnmefihdjglaaGreat
open Go.RowKit
def absN (M S : Int) : Nat := M.natAbs * 10 ^ (18 - S).toNat
theorem absN_is (M S : Int) : (v18 M S).natAbs = absN M S ∧ (M < 0 ↔ v18 M S < 0) ∧ (0 ≤ M ↔ 0 ≤ v18 M S) := by
 have hp : (0 : Int) < 10 ^ (18 - S).toNat := Int.pow_pos (by omega)
 unfold v18 absN
 refine ⟨?_, ?_, ?_⟩
 ·rw [Int.natAbs_mul, Int.natAbs_pow]; rfl
 ·constructor
  ·intro h; exact Int.mul_neg_of_neg_of_pos h hp
  ·intro h
   rcases Int.lt_or_le M 0 with h1 | h1
   ·exact h1
   ·have := Int.mul_nonneg h1 (Int.le_of_lt hp); omega
 ·constructor
  ·intro h; exact Int.mul_nonneg h (Int.le_of_lt hp)
  ·intro h
   rcases Int.lt_or_le M 0 with h1 | h1
   ·have := Int.mul_neg_of_neg_of_pos h1 hp; omega
   ·exact h1
def raB (M1 S1 M2 S2 : Int) : Bool := if decide (M1 < 0) = decide (M2 < 0) then decide (M1 < 0) else if absN M2 S2 ≤ absN M1 S1 then decide (M1 < 0) else decide (M2 < 0)
def raN (M1 S1 M2 S2 : Int) : Nat := if decide (M1 < 0) = decide (M2 < 0) then absN M1 S1 + absN M2 S2 else if absN M2 S2 ≤ absN M1 S1 then absN M1 S1 - absN M2 S2 else absN M2 S2 - absN M1 S1
theorem radd_is (M1 S1 M2 S2 : Int) : ((decMv (raB M1 S1 M2 S2) (raN M1 S1 M2 S2) 18, decSv (raN M1 S1 M2 S2) 18), decOk (raN M1 S1 M2 S2) 18) = canZ (v18 M1 S1 + v18 M2 S2) 18 := by
 obtain ⟨x1, x2, x3⟩ := absN_is M1 S1
 obtain ⟨y1, y2, y3⟩ := absN_is M2 S2
 have hN : raN M1 S1 M2 S2 = (v18 M1 S1 + v18 M2 S2).natAbs := by
  unfold raN
  by_cases h1 : M1 < 0 <;> by_cases h2 : M2 < 0
  ·rw [decide_eq_true h1, decide_eq_true h2, if_pos rfl]; omega
  ·rw [decide_eq_true h1, decide_eq_false h2, if_neg (by decide)]; split <;> omega
  ·rw [decide_eq_false h1, decide_eq_true h2, if_neg (by decide)]; split <;> omega
  ·rw [decide_eq_false h1, decide_eq_false h2, if_pos rfl]; omega
 have hB : v18 M1 S1 + v18 M2 S2 ≠ 0 → raB M1 S1 M2 S2 = decide (v18 M1 S1 + v18 M2 S2 < 0) := by
  intro hz
  unfold raB
  by_cases h1 : M1 < 0 <;> by_cases h2 : M2 < 0
  ·rw [decide_eq_true h1, decide_eq_true h2, if_pos rfl, decide_eq_true (by omega)]
  ·rw [decide_eq_true h1, decide_eq_false h2, if_neg (by decide)]
   split
   ·rw [decide_eq_true (by omega)]
   ·rw [decide_eq_false (by omega)]
  ·rw [decide_eq_false h1, decide_eq_true h2, if_neg (by decide)]
   split
   ·rw [decide_eq_false (by omega)]
   ·rw [decide_eq_true (by omega)]
  ·rw [decide_eq_false h1, decide_eq_false h2, if_pos rfl, decide_eq_false (by omega)]
 rw [hN, canZ_neg _ _ _ hB]
 rfl
def rcV (M1 S1 M2 S2 : Int) : Int := if M1 < 0 ∧ M2 < 0 then cmpN (absN M2 S2) (absN M1 S1) else if M1 < 0 then -1 else if M2 < 0 then 1 else cmpN (absN M1 S1) (absN M2 S2)
theorem rcV_is (M1 S1 M2 S2 : Int) (h1 : 0 ≤ S1 ∧ S1 ≤ 18) (h2 : 0 ≤ S2 ∧ S2 ≤ 18) : cmpD M1 S1 M2 S2 = rcV M1 S1 M2 S2 := by
 rw [cmp_is M1 S1 M2 S2 h1 h2]
 obtain ⟨x1, x2, x3⟩ := absN_is M1 S1
 obtain ⟨y1, y2, y3⟩ := absN_is M2 S2
 unfold rcV sg cmpN
 split <;> split <;> (repeat' split) <;> omega
def rAll : Int → Int → List (Int × Int) → (Int × Int) × Bool
 | m, s, [] => ((m, s), true)
 | m, s, d :: l => if goodB d.1 d.2 then (if decOk (raN m s d.1 d.2) 18 then rAll (decMv (raB m s d.1 d.2) (raN m s d.1 d.2) 18) (decSv (raN m s d.1 d.2) 18) l else ((0, 0), false)) else ((0, 0), false)
theorem rAll_is : ∀ (l : List (Int × Int)) (m s : Int), goodB m s = true → rAll m s l = sumL m s l
 | [], m, s, _ => rfl
 | d :: l, m, s, g => by
   unfold rAll
   rw [sumL_cons]
   by_cases gd : goodB d.1 d.2 = true
   ·rw [if_pos gd, if_pos gd]
    obtain ⟨a1, a2, _⟩ := good_range g
    obtain ⟨b1, b2, _⟩ := good_range gd
    have e1 := add_is m s d.1 d.2 ⟨a1, a2⟩ ⟨b1, b2⟩
    have e2 := radd_is m s d.1 d.2
    have hg := (canZ_is_good (v18 m s + v18 d.1 d.2) 18).1
    rw [← e1] at e2 hg
    simp only [Prod.mk.injEq] at e2
    obtain ⟨⟨r1, r2⟩, r3⟩ := e2
    rw [r1, r2, r3]
    by_cases ho : addOk m s d.1 d.2 = true
    ·rw [if_pos ho, if_pos ho]
     exact rAll_is l _ _ hg
    ·rw [if_neg ho, if_neg ho]
   ·rw [if_neg gd, if_neg gd]
end Go.Proofs.YtjjnmefihdjglaaGreat
namespace Go.Proofs.YtjjnmefihdjglaaGreat
open Go.RowKit
theorem digs_snoc {N d : Nat} (h : 0 < N * 10 + d) (hd : d < 10) : digs (N * 10 + d) = digs N ++ [d] := by
 rw [digs_pos h, show (N * 10 + d) / 10 = N from by omega, show (N * 10 + d) % 10 = d from by omega]
theorem digs_val : ∀ (n : Nat) (l : List Nat), l.length = n → (∀ d ∈ l, d < 10) → (∀ d m, l = d :: m → d ≠ 0) → digs (valD l) = l
 | 0, l, hl, _, _ => by
   obtain rfl : l = [] := List.eq_nil_of_length_eq_zero hl
   exact digs_zero
 | n + 1, l, hl, h1, h2 => by
   have hne : l ≠ [] := by intro h; rw [h] at hl; simp at hl
   obtain ⟨k, d, rfl⟩ : ∃ k d, l = k ++ [d] := ⟨l.dropLast, l.getLast hne, (List.dropLast_concat_getLast hne).symm⟩
   rw [valD_snoc]
   have hd : d < 10 := h1 d (by simp)
   cases k with
   | nil =>
     have h0 : d ≠ 0 := h2 d [] rfl
     rw [digs_snoc (by simp [valD]; omega) hd]
     show digs 0 ++ [d] = [] ++ [d]
     rw [digs_zero]
   | cons e m =>
     have h0 : e ≠ 0 := h2 e (m ++ [d]) rfl
     have ih2 := digs_val n (e :: m) (by simp at hl ⊢; exact hl) (fun x hx => h1 x (List.mem_append_left _ hx)) (fun x y hx => by injection hx with hx _; exact hx ▸ h0)
     have hpos : 0 < valD (e :: m) := by
      rw [valD_cons]
      have := Nat.mul_le_mul (show 1 ≤ e by omega) (show 1 ≤ 10 ^ m.length from Nat.pow_pos (by omega))
      omega
     rw [digs_snoc (by omega) hd, ih2]
theorem valD_trimD (l : List Nat) : valD (trimD l) = valD l := by
 induction l with
 | nil => rfl
 | cons d l ih =>
   by_cases h : d = 0
   ·subst h; rw [trimD_zero, ih, valD_cons]; simp
   ·rw [trimD_pos _ h]
theorem trimD_mem {l : List Nat} {d : Nat} (h : d ∈ trimD l) : d ∈ l := by
 unfold trimD at h
 exact (List.dropWhile_sublist _).mem h
theorem trimD_head {l : List Nat} : ∀ d m, trimD l = d :: m → d ≠ 0 := by
 induction l with
 | nil => intro d m h; cases h
 | cons a l ih =>
   intro d m h
   by_cases h0 : a = 0
   ·subst h0; rw [trimD_zero] at h; exact ih d m h
   ·rw [trimD_pos _ h0] at h; injection h with h _; exact h ▸ h0
theorem trimD_is (l : List Nat) (h : ∀ d ∈ l, d < 10) : trimD l = digs (valD l) := by
 rw [← valD_trimD]
 exact (digs_val _ _ rfl (fun d hd => h d (trimD_mem hd)) trimD_head).symm
end Go.Proofs.YtjjnmefihdjglaaGreat
namespace Go.Proofs.YtjjnmefihdjglaaGreat
open Go.RowKit
set_option maxHeartbeats 2000000 in
set_option maxRecDepth 100000 in
theorem RGood_any (M S : Int) (w : World) (hM : I64 M) (hS : I64 S) :
  Calls Tryz.prog 93 #[decV M S] w fun e w' => e = .returned (.bool (goodB M S)) ∧ Ext w w' := by
 unfold decV
 obtain ⟨hM1, hM2⟩ := hM
 obtain ⟨hS1, hS2⟩ := hS
 by_cases h0 : 0 ≤ S
 ·by_cases h1 : S ≤ 18
  ·by_cases h2 : M = -9223372036854775808
   ·have hb : goodB M S = false := by unfold goodB; simp [h2]
    have H := Lib.hid hb
    have n2 : binOp .neq 2 (.int .i64 M) (.int .i64 (-9223372036854775808)) = pure (.bool false) := by
     rw [h2]; rfl
    clear h2 hb
    go_enter Tryz.func93, Tryz.ntmps93
    go_wp2_with fail
    go_ret
    exact ⟨retB H.out.symm, (Ext.refl _).alloc _⟩
   ·have n2 : binOp .neq 2 (.int .i64 M) (.int .i64 (-9223372036854775808)) = pure (.bool true) := by
     simp only [go_sem]; rw [show (M != -9223372036854775808) = true from by simpa using h2]
    by_cases h3 : S = 0
    ·have hb : goodB M S = true := by unfold goodB; exact decide_eq_true ⟨h0, h1, h2, .inl h3⟩
     have H := Lib.hid hb
     clear h2 hb
     subst h3
     go_enter Tryz.func93, Tryz.ntmps93
     go_wp2_with fail
     go_ret
     exact ⟨retB H.out.symm, (Ext.refl _).alloc _⟩
    ·by_cases h4 : M.tmod 10 = 0
     ·have hb : goodB M S = false := by unfold goodB; simp [h3, h4]
      have H := Lib.hid hb
      clear h2 hb
      go_enter Tryz.func93, Tryz.ntmps93
      go_wp2_with fail
      go_ret
      exact ⟨retB (by rw [H.out]; simpa using h3), (Ext.refl _).alloc _⟩
     ·have hb : goodB M S = true := by unfold goodB; exact decide_eq_true ⟨h0, h1, h2, .inr h4⟩
      have H := Lib.hid hb
      clear h2 hb
      go_enter Tryz.func93, Tryz.ntmps93
      go_wp2_with fail
      go_ret
      exact ⟨retB (by rw [H.out]; simp [h4]), (Ext.refl _).alloc _⟩
  ·have hb : goodB M S = false := by unfold goodB; simp [h1]
   have H := Lib.hid hb
   clear hb
   go_enter Tryz.func93, Tryz.ntmps93
   go_wp2_with fail
   go_ret
   exact ⟨retB H.out.symm, (Ext.refl _).alloc _⟩
 ·have hb : goodB M S = false := by unfold goodB; simp [h0]
  have H := Lib.hid hb
  clear hb
  go_enter Tryz.func93, Tryz.ntmps93
  go_wp2_with fail
  go_ret
  exact ⟨retB H.out.symm, (Ext.refl _).alloc _⟩
end Go.Proofs.YtjjnmefihdjglaaGreat
namespace Go.Proofs.YtjjnmefihdjglaaGreat
open Go.RowKit
theorem zero_cells (k : Nat) : Builtin.zeroCells (Value.int .u8 0).cells k = (List.replicate k (Value.int .u8 0)).toArray := by
 apply Array.ext
 ·simp [Builtin.zeroCells, Value.cells]
 ·intro i h1 h2
  simp [Builtin.zeroCells, Value.cells, Nat.mod_one]
theorem run_zeros_room (w : World) (ty : TypeId) (g n cap k : Nat) (cur : Array Value) (hg : w.heap[g]? = some (.cells cur 5 (0, 0))) (hroom : n + k ≤ cap) (hfit : n + k ≤ cur.size) (hk : k < 100000) :
  (Builtin.append_ #[116, 3] ty #[.slice (some ⟨g, 0, none⟩) n cap, .int .i64 k]).run Tryz.prog w =
    .ok (.slice (some ⟨g, 0, none⟩) (n + k) cap) (w.setRow g (cur.toList.take n ++ List.replicate k (Value.int .u8 0) ++ cur.toList.drop (n + k)).toArray) := by
 obtain ⟨i, hi, hi3⟩ := Option.map_eq_some_iff.1 infoByte
 obtain ⟨hz, hsz, hby⟩ : i.zero = some (.int .u8 0) ∧ i.size = 1 ∧ i.bytes = 1 := by
  injection hi3 with h1 h2; injection h2 with h2 h3; exact ⟨h1, h2, h3⟩
 have hst := run_storeCells_at Tryz.prog g n 5 (List.replicate k (.int .u8 0)) 0 cur w hg (by simpa using hfit) (by
  intro v hv
  rw [List.eq_of_mem_replicate hv]; rfl)
 simp only [Nat.add_zero, List.length_replicate] at hst
 have hw : IntKind.i64.wrap (k : Int) = k := by rw [IntKind.wrap_i64]; omega
 have hneg : ¬ ((k : Int) < 0) := by omega
 have h48i : ¬ (281474976710656 < (k : Int) * (i.bytes : Int)) := by rw [hby]; omega
 by_cases h0 : k = 0
 ·subst h0
  simp at hst
  have hw0 : IntKind.i64.wrap 0 = 0 := by rw [IntKind.wrap_i64]; rfl
  simp at hroom
  simp [Builtin.append_, run_underlying Tryz.underlying116, run_underlying Tryz.underlying3, sizeOf, typeInfo, hi, hsz, asInt, asIntOf, Addr.add_lit, hst, hw0, hroom]
 ·simp [Builtin.append_, run_underlying Tryz.underlying116, run_underlying Tryz.underlying3, sizeOf, typeInfo, hi, hz, hsz, zeroValue, asInt, asIntOf, hw, hneg, h48i, hroom, h0, Addr.add_lit, zero_cells, hst]
def OwnD (base : Nat) (v : Value) (l : List Nat) (w : World) : Prop := w.ownsRow base 5 1 v l.length (digC l)
theorem OwnD.dig {base : Nat} {v : Value} {l : List Nat} {w : World} (h : OwnD base v l w) : DigV v l w := by
 obtain ⟨_, h⟩ := h
 rcases h with ⟨rfl, h0⟩ | ⟨g, cap, cur, rfl, hb, hg, hn, _, hc, ht⟩
 ·exact .inl ⟨List.eq_nil_of_length_eq_zero h0, rfl⟩
 ·refine .inr ⟨g, 0, cap, rfl, hn, (Array.getElem?_eq_some_iff.1 hg).1, fun i hi => ?_⟩
  rw [Lib.cell_of_heap hg, Nat.zero_add]
  have h1 : (cur.toList.take (l.length * 1))[i]? = (digC l)[i]? := by rw [ht]
  rw [List.getElem?_take_of_lt (by omega)] at h1
  have h2 : cur[i]? = cur.toList[i]? := by simp
  rw [h2, h1]
  simp [digC, List.getElem?_eq_getElem hi]
theorem OwnD.nil (base : Nat) (w : World) : OwnD base (.slice none 0 0) [] w := ⟨rfl, .inl ⟨rfl, rfl⟩⟩
theorem run_zeros_own (w : World) (ty : TypeId) (base k : Nat) (v : Value) (l : List Nat) (h : OwnD base v l w) (h0 : 0 < l.length) (hk : k < 100000) (hl : l.length < 100000) (hb : base ≤ w.heap.size) :
  ∃ v' w', (Builtin.append_ #[116, 3] ty #[v, .int .i64 k]).run Tryz.prog w = .ok v' w' ∧ OwnD base v' (l ++ List.replicate k 0) w' ∧ w.grownBy w' v.ownBlock := by
 obtain ⟨i, hi, hi3⟩ := Option.map_eq_some_iff.1 infoByte
 obtain ⟨hz, hsz, hby⟩ : i.zero = some (.int .u8 0) ∧ i.size = 1 ∧ i.bytes = 1 := by
  injection hi3 with h1 h2; injection h2 with h2 h3; exact ⟨h1, h2, h3⟩
 have hC : digC (l ++ List.replicate k 0) = digC l ++ List.replicate k (.int .u8 0) := by simp [digC]
 have hL : (digC (l ++ List.replicate k 0)).length = (l ++ List.replicate k 0).length * 1 := by simp [digC]
 have hN : (l ++ List.replicate k 0).length = l.length + k := by simp
 obtain ⟨hlen, hown⟩ := h
 rcases hown with ⟨_, h1⟩ | ⟨g, cap, cur, rfl, hbg, hg, hnc, hcm, hcs, htake⟩
 ·omega
 ·by_cases hroom : l.length + k ≤ cap
  ·refine ⟨_, _, run_zeros_room w ty g l.length cap k cur hg hroom (by omega) hk, ⟨hL, .inr ⟨g, cap, _, by rw [hN], hbg, setRow_heap w g cur _ 5 _ hg, by omega, hcm, ?_, ?_⟩⟩, ⟨rfl, rfl, rfl, by simp, fun j _ hj => setRow_other w g j _ (fun e => hj (by simp [Value.ownBlock, e]))⟩⟩
   ·simp only [List.size_toArray, List.length_append, List.length_take, List.length_drop, List.length_replicate, Array.length_toList]
    omega
   ·rw [Nat.mul_one] at htake ⊢
    rw [htake, hN, hC]
    have hCl : (digC l ++ List.replicate k (Value.int .u8 0)).length = l.length + k := by simp [digC]
    rw [← hCl]
    exact List.take_left
  ·have hold : (Builtin.firstCells i.size l.length (.slice (some ⟨g, 0, none⟩) l.length cap)).run Tryz.prog w.drew = .ok (digC l).toArray w.drew := by
    rw [hsz]
    exact run_firstCells_some (P := Tryz.prog) w.drew 1 l.length ⟨g, 0, none⟩ l.length cap (digC l) (by simp [digC]) (by
     intro j u hu
     have hj := (List.getElem?_eq_some_iff.1 hu).1
     have hj2 : j < l.length := by simpa [digC] using hj
     rw [Addr.add_lit, Lib.cell_of_heap (show w.drew.heap[g]? = _ from hg), Nat.zero_add]
     have h1 : (cur.toList.take (l.length * 1))[j]? = (digC l)[j]? := by rw [htake]
     rw [List.getElem?_take_of_lt (by omega)] at h1
     have h2 : cur[j]? = cur.toList[j]? := by simp
     rw [h2, h1, hu])
   have hk0 : 0 < k := by omega
   have hr := Lib.run_append_grow_zeros (P := Tryz.prog) w 116 3 ty 5 i (.int .u8 0) .i64 .i64 Tryz.underlying116 Tryz.underlying3 hi hz (some ⟨g, 0, none⟩) l.length cap (digC l) hold k hk0 (by omega) (by omega) (by omega) (by rw [hby]; omega) (by rw [hby]; exact growslice_fits (by omega) (by omega))
   have hge := grownCap_ge w (l.length + k) cap 5
   have hcm2 : grownCap w (l.length + k) cap 5 ≤ maxLen := grownCap_le_maxLen w (l.length + k) cap 5 (by unfold maxLen; omega)
   refine ⟨_, _, hr, ⟨hL, .inr ⟨w.heap.size, _, _, by rw [hN], hb, heap_alloc_new w.drew _, by omega, hcm2, ?_, ?_⟩⟩, ⟨rfl, rfl, rfl, by simp, fun j hj _ => heap_alloc_old w.drew _ hj⟩⟩
   ·rw [zero_cells, zero_cells]
    simp [digC]
    omega
   ·rw [zero_cells, zero_cells, hC, Nat.mul_one, hN]
    have hCl : (digC l ++ List.replicate k (Value.int .u8 0)).length = l.length + k := by simp [digC]
    rw [← hCl]
    simp only [Array.toList_append]
    exact List.take_left
theorem grown_ext {base : Nat} {w0 w w' : World} {v : Value} {l : List Nat} (h : OwnD base v l w) (hg : w.grownBy w' v.ownBlock) (hbase : base ≤ w.heap.size) (hw0 : Ext w0 w) (hb0 : w0.heap.size ≤ base) : Ext w0 w' := by
 have hne : ∀ k, k < w0.heap.size → some k ≠ v.ownBlock := by
  intro k hk he
  rcases h.2 with ⟨rfl, _⟩ | ⟨g2, cap2, cur, rfl, hb2, _⟩
  ·cases he
  ·injection he with he
   simp only [] at he
   omega
 exact Below.trans hw0 ⟨hg.os, hg.tape, hg.output, hg.size, fun k hk => hg.block k (Nat.lt_of_lt_of_le hk (Nat.le_trans hb0 hbase)) (hne k hk)⟩
theorem wpList_zeros {ops : Array Oper} {rest : List Oper} {o : Oper} {a : Act} {Q : Exit → Act → World → Prop} (w w0 : World) (hgd : o.guard = none) (sl x : Operand)
  (ho : o.op = .call { callee := .builtin .append, args := #[sl, x], argTypes := #[116, 3] })
  (base k : Nat) (v : Value) (l : List Nat) (hs : a.eval sl = v) (hx : a.eval x = .int .i64 k) (h : OwnD base v l w) (h0 : 0 < l.length) (hk : k < 100000) (hl : l.length < 100000) (hbase : base ≤ w.heap.size) (hw0 : Ext w0 w) (hb0 : w0.heap.size ≤ base)
  (hn : ∀ v' w', OwnD base v' (l ++ List.replicate k 0) w' → Ext w0 w' → wpList Tryz.prog ops Q rest (a.put o.dst v') w') :
  wpList Tryz.prog ops Q (o :: rest) a w := by
 obtain ⟨v', w', hr, h2, h3⟩ := run_zeros_own w o.type base k v l h h0 hk hl hbase
 exact Lib.wpList_append_run w hgd sl x 116 3 ho v (.int .i64 k) hs hx v' w' hr (hn v' w' h2 (grown_ext h h3 hbase hw0 hb0))
theorem wpList_copy_dig {ops : Array Oper} {rest : List Oper} {o : Oper} {a : Act} {Q : Exit → Act → World → Prop} (w : World) (hgd : o.guard = none) (sl x : Operand)
  (ho : o.op = .call { callee := .builtin .append, args := #[sl, x], argTypes := #[116, 116] })
  (v : Value) (l : List Nat) (hs : a.eval sl = .slice none 0 0) (hx : a.eval x = v) (h : DigV v l w) (h0 : 0 < l.length) (hl : l.length < 100000)
  (hn : ∀ v' w', OwnD w.heap.size v' l w' → Ext w w' → wpList Tryz.prog ops Q rest (a.put o.dst v') w') :
  wpList Tryz.prog ops Q (o :: rest) a w := by
 obtain ⟨i, hi, hi3⟩ := Option.map_eq_some_iff.1 infoByte
 obtain ⟨hz, hsz, hby⟩ : i.zero = some (.int .u8 0) ∧ i.size = 1 ∧ i.bytes = 1 := by
  injection hi3 with h1 h2; injection h2 with h2 h3; exact ⟨h1, h2, h3⟩
 rcases h with ⟨rfl, _⟩ | ⟨b, off, c, rfl, hc, hb, hcell⟩
 ·simp at h0
 ·refine wpList_append_lies w hgd sl x 116 ho w.heap.size 5 i (.int .u8 0) 1 1 Tryz.underlying116 hi hz hsz hby rfl (by omega) (.slice none 0 0) 0 [] hs ⟨rfl, .inl ⟨rfl, rfl⟩⟩ ⟨b, off, none⟩ l.length c (digC l) hx (by simp [digC]) ?_ ?_ h0 (by unfold maxLen; omega) (by omega) (Nat.le_refl _) w.heap.size rfl ?_
  ·intro j u hu
   have hj := (List.getElem?_eq_some_iff.1 hu).1
   have hj2 : j < l.length := by simpa [digC] using hj
   rw [Addr.add_lit, hcell j hj2]
   simp [digC, List.getElem?_eq_getElem hj2] at hu
   rw [← hu]
  ·intro u hu
   obtain ⟨d, _, rfl⟩ := List.mem_map.1 hu
   rfl
  ·intro g cap w1 hown hgrow hat hlt
   rw [Nat.zero_add, List.nil_append] at hown
   rw [Nat.zero_add]
   exact hn _ _ hown ⟨hgrow.os, hgrow.tape, hgrow.output, hgrow.size, fun k hk => hgrow.block k hk (by simp [Value.ownBlock])⟩
def tensD (l : List Nat) (n : Nat) : List Nat := if l = [] then [] else l ++ List.replicate n 0
theorem tensD_digs (N n : Nat) : tensD (digs N) n = digs (N * 10 ^ n) := by
 unfold tensD
 by_cases h : N = 0
 ·subst h; rw [digs_zero]; simp [digs_zero]
 ·have hpos : 0 < N := by omega
  rw [if_neg (digs_ne hpos)]
  induction n with
  | zero => simp
  | succ n ih =>
    rw [List.replicate_succ', ← List.append_assoc, ih, Nat.pow_succ, ← Nat.mul_assoc]
    have hp : 0 < N * 10 ^ n := Nat.mul_pos hpos (Nat.pow_pos (by omega))
    rw [digs_pos (show 0 < N * 10 ^ n * 10 by omega), Nat.mul_div_cancel _ (by omega), Nat.mul_mod_left]
set_option maxHeartbeats 2000000 in
set_option maxRecDepth 100000 in
theorem tens_any (v : Value) (l : List Nat) (n : Nat) (w : World) (hv : DigV v l w) (hl : l.length < 100000) (hn : n < 100000) :
  Calls Tryz.prog 94 #[v, .int .i64 n] w fun e w' => (∃ v', e = .returned v' ∧ DigV v' (tensD l n) w') ∧ Ext w w' := by
 obtain ⟨p, c, rfl⟩ := hv.form
 by_cases h0 : l.length = 0
 ·have hnil : l = [] := List.eq_nil_of_length_eq_zero h0
  go_enter Tryz.func94, Tryz.ntmps94
  go_wp2_with fail
  go_ret
  exact ⟨⟨_, rfl, .inl ⟨by unfold tensD; rw [if_pos hnil], rfl⟩⟩, Ext.refl _⟩
 ·have hne : l ≠ [] := fun h => h0 (by rw [h]; rfl)
  go_enter Tryz.func94, Tryz.ntmps94
  go_wp2_with (at_builtin; refine wpList_copy_dig _ rfl _ _ rfl _ l rfl rfl ?c1 ?c2 ?c3 ?_)
  case c1 => exact hv
  case c2 => omega
  case c3 => exact hl
  intro v1 w1 hv1 x1
  go_wp2_with (at_builtin; refine wpList_zeros _ w rfl _ _ rfl w.heap.size n _ l rfl rfl ?c1 ?c2 ?c3 ?c4 ?c5 ?c6 ?c7 ?_)
  case c1 => exact hv1
  case c2 => omega
  case c3 => exact hn
  case c4 => exact hl
  case c5 => exact x1.size
  case c6 => exact x1
  case c7 => exact Nat.le_refl _
  intro v2 w2 hv2 x2
  go_wp2_with fail
  go_ret
  exact ⟨⟨_, rfl, by unfold tensD; rw [if_neg hne]; exact hv2.dig⟩, x2⟩
end Go.Proofs.YtjjnmefihdjglaaGreat
namespace Go.Proofs.YtjjnmefihdjglaaGreat
open Go.RowKit
def lastN (l : List Nat) (k : Nat) : List Nat := l.drop (l.length - k)
theorem lastN_zero (l : List Nat) : lastN l 0 = [] := by unfold lastN; rw [Nat.sub_zero, List.drop_eq_nil_of_le (Nat.le_refl _)]
theorem lastN_all (l : List Nat) (k : Nat) (h : l.length ≤ k) : lastN l k = l := by unfold lastN; rw [show l.length - k = 0 from by omega, List.drop_zero]
theorem lastN_len (l : List Nat) (k : Nat) (h : k ≤ l.length) : (lastN l k).length = k := by unfold lastN; rw [List.length_drop]; omega
theorem lastN_lt {l : List Nat} (h : ∀ d ∈ l, d < 10) (k : Nat) : ∀ d ∈ lastN l k, d < 10 := fun d hd => h d (List.mem_of_mem_drop hd)
theorem lastN_step (l : List Nat) (k : Nat) (h : k < l.length) : valD (lastN l (k + 1)) = l[l.length - (k + 1)]'(by omega) * 10 ^ k + valD (lastN l k) := by
 have e : lastN l (k + 1) = l[l.length - (k + 1)]'(by omega) :: lastN l k := by
  unfold lastN
  rw [List.drop_eq_getElem_cons (by omega), show l.length - (k + 1) + 1 = l.length - k from by omega]
 rw [e, valD_cons, lastN_len l k (by omega)]
theorem lastN_more (l : List Nat) (k : Nat) (h : l.length ≤ k) : valD (lastN l (k + 1)) = valD (lastN l k) := by rw [lastN_all l _ (by omega), lastN_all l _ h]
theorem plus_step {D c k x y A B : Nat} (hD : D + c * 10 ^ k = A + B) : (c + x + y) % 10 * 10 ^ k + D + (c + x + y) / 10 * 10 ^ (k + 1) = (x * 10 ^ k + A) + (y * 10 ^ k + B) := by
 have h := Nat.div_add_mod (c + x + y) 10
 have e : (c + x + y) % 10 * 10 ^ k + (c + x + y) / 10 * 10 ^ (k + 1) = (c + x + y) * 10 ^ k := by
  rw [Nat.pow_succ, Nat.mul_comm (10 ^ k) 10, ← Nat.mul_assoc, ← Nat.add_mul]
  congr 1
  omega
 have e2 : (c + x + y) * 10 ^ k = c * 10 ^ k + x * 10 ^ k + y * 10 ^ k := by rw [Nat.add_mul, Nat.add_mul]
 omega
theorem minus_step {D c k x y A B : Nat} (hD : D + B = A + c * 10 ^ k) (hx : x < 10) (hy : y < 10) (hc : c ≤ 1) :
  (if x < c + y then x + 10 - (c + y) else x - (c + y)) * 10 ^ k + D + (y * 10 ^ k + B) = x * 10 ^ k + A + (if x < c + y then 1 else 0) * 10 ^ (k + 1) ∧ (if x < c + y then x + 10 - (c + y) else x - (c + y)) < 10 := by
 by_cases h : x < c + y
 ·rw [if_pos h, if_pos h]
  refine ⟨?_, by omega⟩
  have e : (x + 10 - (c + y)) * 10 ^ k + (c * 10 ^ k + y * 10 ^ k) = x * 10 ^ k + 10 ^ (k + 1) := by
   rw [← Nat.add_mul, ← Nat.add_mul, show x + 10 - (c + y) + (c + y) = x + 10 from by omega, Nat.add_mul, Nat.pow_succ, Nat.mul_comm 10]
  omega
 ·rw [if_neg h, if_neg h]
  refine ⟨?_, by omega⟩
  have e : (x - (c + y)) * 10 ^ k + (c * 10 ^ k + y * 10 ^ k) = x * 10 ^ k := by
   rw [← Nat.add_mul, ← Nat.add_mul, show x - (c + y) + (c + y) = x from by omega]
  omega
def valI : List Nat → Nat
 | [] => 0
 | d :: l => d * 10 ^ l.length + valI l
theorem valI_set : ∀ (l : List Nat) (j x : Nat) (h : j < l.length), valI (l.set j (l[j] + x)) = valI l + x * 10 ^ (l.length - 1 - j)
 | d :: l, 0, x, _ => by
   simp only [List.set_cons_zero, List.getElem_cons_zero, valI, List.length_cons, Nat.add_mul]
   rw [show l.length + 1 - 1 - 0 = l.length from by omega]
   omega
 | d :: l, j + 1, x, h => by
   have hj : j < l.length := by simpa using h
   simp only [List.set_cons_succ, List.getElem_cons_succ, valI, List.length_cons, List.length_set]
   rw [valI_set l j x hj, show l.length + 1 - 1 - (j + 1) = l.length - 1 - j from by omega]
   omega
theorem valI_zero (n : Nat) : valI (List.replicate n 0) = 0 := by
 induction n with
 | zero => rfl
 | succ n ih => rw [List.replicate_succ, valI, ih]; simp
theorem carry_step {D c k x V : Nat} (hD : D + c * 10 ^ k = V) : (c + x) % 10 * 10 ^ k + D + (c + x) / 10 * 10 ^ (k + 1) = x * 10 ^ k + V := by
 have h := plus_step (x := x) (y := 0) (A := V) (B := 0) (c := c) (k := k) (D := D) (by omega)
 simpa using h
end Go.Proofs.YtjjnmefihdjglaaGreat
namespace Go.Proofs.YtjjnmefihdjglaaGreat
open Go.RowKit
def RowD (b : Nat) (L : List Nat) (w : World) : Prop := w.heap[b]? = some (.cells (digC L).toArray 5 (0, 0))
theorem RowD.lt {b : Nat} {L : List Nat} {w : World} (h : RowD b L w) : b < w.heap.size := (Array.getElem?_eq_some_iff.1 h).1
theorem RowD.ext {b : Nat} {L : List Nat} {w w' : World} (h : RowD b L w) (x : Ext w w') : RowD b L w' := (x.heap h.lt).trans h
theorem RowD.cell {b : Nat} {L : List Nat} {w : World} (h : RowD b L w) (i : Nat) (hi : i < L.length) : w.cell? ⟨b, i, none⟩ = some (.int .u8 (L[i] : Int)) := by
 rw [Lib.cell_of_heap h]
 simp [digC, List.getElem?_eq_getElem hi]
theorem RowD.free {b : Nat} {L : List Nat} {w : World} (h : RowD b L w) (i : Nat) : w.frozen? ⟨b, i, none⟩ = false := Lib.frozen_of_heap h i
theorem RowD.put {b : Nat} {L : List Nat} {w : World} (h : RowD b L w) (i d : Nat) : RowD b (L.set i d) (w.setCell ⟨b, i, none⟩ (.int .u8 (d : Int))) := by
 have hl : digC (L.set i d) = (digC L).set i (.int .u8 (d : Int)) := by
  unfold digC
  rw [← List.map_set]
 unfold RowD at *
 rw [hl]
 simp [World.setCell, Array.getElem?_modify, h]
theorem RowD.dig {b : Nat} {L : List Nat} {w : World} (h : RowD b L w) (c : Nat) (hc : L.length ≤ c) : DigV (.slice (some ⟨b, 0, none⟩) L.length c) L w :=
 .inr ⟨b, 0, c, rfl, hc, h.lt, fun i hi => by rw [Nat.zero_add]; exact h.cell i hi⟩
theorem RowD.other {b : Nat} {L : List Nat} {w : World} (h : RowD b L w) (p : Addr) (v : Value) (hp : p.block ≠ b) : RowD b L (w.setCell p v) := by
 unfold RowD at *
 rw [← h]
 simp [World.setCell, Array.getElem?_modify, hp]
theorem set_back (n i d : Nat) (done : List Nat) (h : i < n) (hd : done.length = i) : (List.replicate (n - i) 0 ++ done).set (n - (i + 1)) d = List.replicate (n - (i + 1)) 0 ++ (d :: done) := by
 rw [show n - i = (n - (i + 1)) + 1 from by omega, List.replicate_succ', List.append_assoc, List.set_append_right _ _ (by simp)]
 simp
theorem mk_row (n : Nat) (hn : n ≤ 1000000) (w : World) : (Instr.makeSlice 116 (.int .i64 (n : Int)) (.int .i64 (n : Int))).run Tryz.prog w = .ok (.slice (some ⟨w.heap.size, 0, none⟩) n n) (w.alloc (.cells (digC (List.replicate n 0)).toArray 5)) := by
 obtain ⟨i, hi, hi3⟩ := Option.map_eq_some_iff.1 infoByte
 obtain ⟨hz, hsz, hby⟩ : i.zero = some (.int .u8 0) ∧ i.size = 1 ∧ i.bytes = 1 := by
  injection hi3 with h1 h2; injection h2 with h2 h3; exact ⟨h1, h2, h3⟩
 have h := run_make (P := Tryz.prog) w 116 5 i (.int .u8 0) Tryz.underlying116 hi hz .i64 .i64 n n (by omega) (by omega) (by rw [hby]; omega) (by omega)
 rw [h]
 have e : madeCells (Value.int IntKind.u8 0).cells ((n : Int).toNat * i.size) = (digC (List.replicate n 0)).toArray := by
  rw [hsz]
  apply Array.ext
  ·simp [digC, size_madeCells]
  ·intro j h1 h2
   simp [digC, madeCells, Value.cells, Nat.mod_one]
 rw [e]; rfl
end Go.Proofs.YtjjnmefihdjglaaGreat
namespace Go.Proofs.YtjjnmefihdjglaaGreat
open Go.RowKit
theorem cM_in (M S : Int) (hM : I64 M) : (I64 (cM M S) ∧ cM M S ≠ -9223372036854775808) ∧ 0 ≤ cS M S ∧ cS M S ≤ 18 := by
 unfold cM cS
 by_cases g : goodB M S = true
 ·rw [if_pos g, if_pos g]
  obtain ⟨a, b, c⟩ := good_range g
  exact ⟨⟨hM, c⟩, a, b⟩
 ·rw [if_neg g, if_neg g]
  exact ⟨⟨by unfold I64; omega, by omega⟩, by omega, by omega⟩
theorem digs_len19 {M : Int} (hM : I64 M) : (digs M.natAbs).length ≤ 19 := digs_length (by
 have h10 : (9223372036854775808 : Nat) < 10 ^ 19 := by decide
 unfold I64 at hM
 omega)
theorem tensD_len (l : List Nat) (n : Nat) : (tensD l n).length ≤ l.length + n := by
 unfold tensD
 split
 ·simp
 ·rw [List.length_append, List.length_replicate]; exact Nat.le_refl _
theorem absN_len {M S : Int} (hM : I64 M) (hS : 0 ≤ S ∧ S ≤ 18) : (digs (absN M S)).length ≤ 37 := by
 unfold absN
 rw [← tensD_digs]
 have := tensD_len (digs M.natAbs) (18 - S).toNat
 have := digs_len19 hM
 omega
theorem tens18 (M S : Int) (hM : I64 M) (hS : 0 ≤ S ∧ S ≤ 18) (v : Value) (w : World) (h : DigV v (digs M.natAbs) w) :
  Calls Tryz.prog 94 #[v, .int .i64 (IntKind.i64.wrap (18 - S))] w fun e w' => (∃ v', e = .returned v' ∧ DigV v' (digs (absN M S)) w') ∧ Ext w w' := by
 have := digs_len19 hM
 unfold absN
 rw [show IntKind.i64.wrap (18 - S) = ((18 - S).toNat : Int) from by rw [IntWalk.i64_in _ (by omega)]; omega, ← tensD_digs]
 exact tens_any v _ _ w h (by omega) (by omega)
set_option maxHeartbeats 16000000 in
set_option maxRecDepth 100000 in
theorem RCompare_any (M1 S1 M2 S2 : Int) (w : World) (hM1 : I64 M1) (hS1 : I64 S1) (hM2 : I64 M2) (hS2 : I64 S2) :
  Calls Tryz.prog 64 #[decV M1 S1, decV M2 S2] w fun e w' => e = .returned (.int .i64 (rcV (cM M1 S1) (cS M1 S1) (cM M2 S2) (cS M2 S2))) ∧ Ext w w' := by
 have G1 := fun w => RGood_any M1 S1 w hM1 hS1
 have G2 := fun w => RGood_any M2 S2 w hM2 hS2
 obtain ⟨⟨i1, j1⟩, r1⟩ := cM_in M1 S1 hM1
 obtain ⟨⟨i2, j2⟩, r2⟩ := cM_in M2 S2 hM2
 have hx : Ext w ((w.alloc (.cells #[.int .i64 M1, .int .i64 S1] 38)).alloc (.cells #[.int .i64 M2, .int .i64 S2] 38)) := ((Ext.refl _).alloc _).alloc _
 have h1 : DecIn w.heap.size M1 S1 ((w.alloc (.cells #[.int .i64 M1, .int .i64 S1] 38)).alloc (.cells #[.int .i64 M2, .int .i64 S2] 38)) := heap_at2a _ _ _
 have h2 : DecIn (w.heap.size + 1) M2 S2 ((w.alloc (.cells #[.int .i64 M1, .int .i64 S1] 38)).alloc (.cells #[.int .i64 M2, .int .i64 S2] 38)) := heap_at2b _ _ _
 unfold decV at *
 obtain ⟨A1, eA1⟩ : ∃ x, cM M1 S1 = x := ⟨_, rfl⟩
 obtain ⟨T1, eT1⟩ : ∃ x, cS M1 S1 = x := ⟨_, rfl⟩
 obtain ⟨A2, eA2⟩ : ∃ x, cM M2 S2 = x := ⟨_, rfl⟩
 obtain ⟨T2, eT2⟩ : ∃ x, cS M2 S2 = x := ⟨_, rfl⟩
 rw [eA1, eT1, eA2, eT2]
 rw [eA1] at i1
 rw [eA2] at i2
 rw [eT1] at r1
 rw [eT2] at r2
 obtain ⟨RV, hRV⟩ : ∃ x, rcV A1 T1 A2 T2 = x := ⟨_, rfl⟩
 rw [hRV]
 by_cases g1 : goodB M1 S1 = true
 ·rw [g1] at G1
  by_cases g2 : goodB M2 S2 = true
  ·rw [g2] at G2
   go_enter Tryz.func64, Tryz.ntmps64
   obtain ⟨c0, c1⟩ := h1.cells
   obtain ⟨d0, d1⟩ := h2.cells
   go_wp2_with fail
   (with_reducible refine (G1 _).mono ?_)
   rintro e w1 ⟨rfl, x1⟩
   replace h1 := h1.ext x1
   replace h2 := h2.ext x1
   replace hx := hx.trans x1
   clear c0 c1 d0 d1
   obtain ⟨c0, c1⟩ := h1.cells
   obtain ⟨d0, d1⟩ := h2.cells
   obtain ⟨f0, f1⟩ := h1.free
   go_wp2_with fail
   (with_reducible refine (G2 _).mono ?_)
   rintro e w2 ⟨rfl, x2⟩
   replace h1 := h1.ext x2
   replace h2 := h2.ext x2
   replace hx := hx.trans x2
   clear c0 c1 d0 d1 f0 f1
   obtain ⟨W, hW⟩ : ∃ W, w2 = W := ⟨_, rfl⟩
   have k1 : DecIn w.heap.size (cM M1 S1) (cS M1 S1) w2 := by unfold cM cS; rw [if_pos g1, if_pos g1]; exact h1
   have k2 : DecIn (w.heap.size + 1) (cM M2 S2) (cS M2 S2) w2 := by unfold cM cS; rw [if_pos g2, if_pos g2]; exact h2
   rw [hW] at k1 k2 hx ⊢
   clear hW
   rw [eA1, eT1] at k1
   rw [eA2, eT2] at k2
   clear eA1 eT1 eA2 eT2 G1 G2 h1 h2 j1 j2
   have AM1 := fun w => amount_any A1 w i1
   have AM2 := fun w => amount_any A2 w i2
   have TE1 := fun v w h => tens18 A1 T1 i1 r1 v w h
   have TE2 := fun v w h => tens18 A2 T2 i2 r2 v w h
   have l1 := absN_len i1 r1
   have l2 := absN_len i2 r2
   obtain ⟨c0, c1⟩ := k1.cells
   obtain ⟨d0, d1⟩ := k2.cells
   have Y : Ext W W.drew := (Ext.refl _).drew
   have hY0 : True := trivial
   go_upto_region 5 with fail
   go_cut [5, 6] (fun x y wx => DigV x (digs (absN A1 T1)) wx ∧ DigV y (digs (absN A2 T2)) wx ∧ Ext W wx)
   case first =>
    go_region_held3 (fun w' => w'.cell? ⟨w.heap.size, 0, none⟩ = some (.int .i64 A1) ∧ w'.cell? ⟨w.heap.size, 1, none⟩ = some (.int .i64 T1) ∧ w'.cell? ⟨w.heap.size + 1, 0, none⟩ = some (.int .i64 A2) ∧ w'.cell? ⟨w.heap.size + 1, 1, none⟩ = some (.int .i64 T2)) (first | exact ⟨p0, p1, q0, q1⟩ | exact ⟨c0, c1, d0, d1⟩ | go_keep) (first
     | (go_at_call 95; (with_reducible refine (AM1 _).mono ?_); rintro e wz ⟨⟨a1, rfl, hA1⟩, xz⟩; (try replace hA2 := hA2.ext xz); (try replace hX := hX.ext xz); (try replace hZ := hZ.ext xz); replace Y := Y.trans xz; have p0 := (k1.ext Y).cells.1; have p1 := (k1.ext Y).cells.2; have q0 := (k2.ext Y).cells.1; have q1 := (k2.ext Y).cells.2)
     | (go_at_call 95; (with_reducible refine (AM2 _).mono ?_); rintro e wz ⟨⟨a2, rfl, hA2⟩, xz⟩; (try replace hA1 := hA1.ext xz); (try replace hX := hX.ext xz); (try replace hZ := hZ.ext xz); replace Y := Y.trans xz; have p0 := (k1.ext Y).cells.1; have p1 := (k1.ext Y).cells.2; have q0 := (k2.ext Y).cells.1; have q1 := (k2.ext Y).cells.2)
     | (go_at_call 94; (with_reducible refine (TE1 _ _ ?h).mono ?_); (case h => exact hA1); rintro e wz ⟨⟨t1, rfl, hX⟩, xz⟩; (try replace hA1 := hA1.ext xz); (try replace hA2 := hA2.ext xz); (try replace hZ := hZ.ext xz); replace Y := Y.trans xz; have p0 := (k1.ext Y).cells.1; have p1 := (k1.ext Y).cells.2; have q0 := (k2.ext Y).cells.1; have q1 := (k2.ext Y).cells.2)
     | (go_at_call 94; (with_reducible refine (TE2 _ _ ?h).mono ?_); (case h => exact hA2); rintro e wz ⟨⟨t2, rfl, hZ⟩, xz⟩; (try replace hA1 := hA1.ext xz); (try replace hA2 := hA2.ext xz); (try replace hX := hX.ext xz); replace Y := Y.trans xz; have p0 := (k1.ext Y).cells.1; have p1 := (k1.ext Y).cells.2; have q0 := (k2.ext Y).cells.1; have q1 := (k2.ext Y).cells.2))
    all_goals
     go_wp2_with fail
     go_meet
     case rel => exact ⟨hX, hZ, Y⟩
   case rest =>
    obtain ⟨hX, hZ, xc⟩ := hcut
    have m1 := k1.ext xc
    have m2 := k2.ext xc
    have hxc := hx.trans xc
    clear c0 c1 d0 d1 k1 k2 AM1 AM2 TE1 TE2 Y hY0
    obtain ⟨c0, c1⟩ := m1.cells
    obtain ⟨d0, d1⟩ := m2.cells
    have CX := fun W h h' => dcompare_any u5 u6 _ _ W (hX.ext h) (hZ.ext h') (by omega) (by omega)
    have CZ := fun W h h' => dcompare_any u6 u5 _ _ W (hZ.ext h) (hX.ext h') (by omega) (by omega)
    rw [cmpDg_digs] at CX CZ
    by_cases n1 : A1 < 0
    ·by_cases n2 : A2 < 0
     ·have HV : Hid (RV = cmpN (absN A2 T2) (absN A1 T1)) := Lib.hid (by rw [← hRV]; unfold rcV; rw [if_pos ⟨n1, n2⟩])
      clear hRV
      go_wp2_with fail
      (with_reducible refine (CZ _ (Ext.refl _) (Ext.refl _)).mono ?_)
      rintro e w9 ⟨rfl, x9⟩
      go_wp2_with fail
      go_ret
      exact ⟨retI HV.out.symm, hxc.trans x9⟩
     ·have HV : Hid (RV = -1) := Lib.hid (by rw [← hRV]; unfold rcV; rw [if_neg (fun h => n2 h.2), if_pos n1])
      clear hRV
      go_wp2_with fail
      go_ret
      exact ⟨retI HV.out.symm, hxc⟩
    ·by_cases n2 : A2 < 0
     ·have HV : Hid (RV = 1) := Lib.hid (by rw [← hRV]; unfold rcV; rw [if_neg (fun h => n1 h.1), if_neg n1, if_pos n2])
      clear hRV
      go_wp2_with fail
      go_ret
      exact ⟨retI HV.out.symm, hxc⟩
     ·have HV : Hid (RV = cmpN (absN A1 T1) (absN A2 T2)) := Lib.hid (by rw [← hRV]; unfold rcV; rw [if_neg (fun h => n1 h.1), if_neg n1, if_neg n2])
      clear hRV
      go_wp2_with fail
      (with_reducible refine (CX _ (Ext.refl _) (Ext.refl _)).mono ?_)
      rintro e w9 ⟨rfl, x9⟩
      go_wp2_with fail
      go_ret
      exact ⟨retI HV.out.symm, hxc.trans x9⟩
  ·rw [show goodB M2 S2 = false from by simpa using g2] at G2
   go_enter Tryz.func64, Tryz.ntmps64
   obtain ⟨c0, c1⟩ := h1.cells
   obtain ⟨d0, d1⟩ := h2.cells
   go_wp2_with fail
   (with_reducible refine (G1 _).mono ?_)
   rintro e w1 ⟨rfl, x1⟩
   replace h1 := h1.ext x1
   replace h2 := h2.ext x1
   replace hx := hx.trans x1
   clear c0 c1 d0 d1
   obtain ⟨c0, c1⟩ := h1.cells
   obtain ⟨d0, d1⟩ := h2.cells
   obtain ⟨f0, f1⟩ := h1.free
   go_wp2_with fail
   (with_reducible refine (G2 _).mono ?_)
   rintro e w2 ⟨rfl, x2⟩
   replace h1 := h1.ext x2
   replace h2 := h2.ext x2
   replace hx := hx.trans x2
   clear c0 c1 d0 d1 f0 f1
   obtain ⟨f0, f1⟩ := h2.free
   have k1 : DecIn w.heap.size (cM M1 S1) (cS M1 S1) (setDec w2 (w.heap.size + 1) 0 0) := by unfold cM cS; rw [if_pos g1, if_pos g1]; exact (heap_setDec _ _ _ _ _ (by omega)).trans h1
   have k2 : DecIn (w.heap.size + 1) (cM M2 S2) (cS M2 S2) (setDec w2 (w.heap.size + 1) 0 0) := by unfold cM cS; rw [if_neg g2, if_neg g2]; exact h2.stored 0 0
   obtain ⟨d0, d1⟩ := h2.cells
   replace hx := ext_setDec hx (Nat.le_succ _) 0 0
   go_upto_region 5 with fail
   change Code.wp _ _ _ _ (setDec w2 (w.heap.size + 1) 0 0)
   generalize setDec w2 (w.heap.size + 1) 0 0 = W at *
   clear d0 d1 f0 f1
   rw [eA1, eT1] at k1
   rw [eA2, eT2] at k2
   clear eA1 eT1 eA2 eT2 G1 G2 h1 h2 j1 j2
   have AM1 := fun w => amount_any A1 w i1
   have AM2 := fun w => amount_any A2 w i2
   have TE1 := fun v w h => tens18 A1 T1 i1 r1 v w h
   have TE2 := fun v w h => tens18 A2 T2 i2 r2 v w h
   have l1 := absN_len i1 r1
   have l2 := absN_len i2 r2
   obtain ⟨c0, c1⟩ := k1.cells
   obtain ⟨d0, d1⟩ := k2.cells
   have Y : Ext W W.drew := (Ext.refl _).drew
   have hY0 : True := trivial
   go_upto_region 5 with fail
   go_cut [5, 6] (fun x y wx => DigV x (digs (absN A1 T1)) wx ∧ DigV y (digs (absN A2 T2)) wx ∧ Ext W wx)
   case first =>
    go_region_held3 (fun w' => w'.cell? ⟨w.heap.size, 0, none⟩ = some (.int .i64 A1) ∧ w'.cell? ⟨w.heap.size, 1, none⟩ = some (.int .i64 T1) ∧ w'.cell? ⟨w.heap.size + 1, 0, none⟩ = some (.int .i64 A2) ∧ w'.cell? ⟨w.heap.size + 1, 1, none⟩ = some (.int .i64 T2)) (first | exact ⟨p0, p1, q0, q1⟩ | exact ⟨c0, c1, d0, d1⟩ | go_keep) (first
     | (go_at_call 95; (with_reducible refine (AM1 _).mono ?_); rintro e wz ⟨⟨a1, rfl, hA1⟩, xz⟩; (try replace hA2 := hA2.ext xz); (try replace hX := hX.ext xz); (try replace hZ := hZ.ext xz); replace Y := Y.trans xz; have p0 := (k1.ext Y).cells.1; have p1 := (k1.ext Y).cells.2; have q0 := (k2.ext Y).cells.1; have q1 := (k2.ext Y).cells.2)
     | (go_at_call 95; (with_reducible refine (AM2 _).mono ?_); rintro e wz ⟨⟨a2, rfl, hA2⟩, xz⟩; (try replace hA1 := hA1.ext xz); (try replace hX := hX.ext xz); (try replace hZ := hZ.ext xz); replace Y := Y.trans xz; have p0 := (k1.ext Y).cells.1; have p1 := (k1.ext Y).cells.2; have q0 := (k2.ext Y).cells.1; have q1 := (k2.ext Y).cells.2)
     | (go_at_call 94; (with_reducible refine (TE1 _ _ ?h).mono ?_); (case h => exact hA1); rintro e wz ⟨⟨t1, rfl, hX⟩, xz⟩; (try replace hA1 := hA1.ext xz); (try replace hA2 := hA2.ext xz); (try replace hZ := hZ.ext xz); replace Y := Y.trans xz; have p0 := (k1.ext Y).cells.1; have p1 := (k1.ext Y).cells.2; have q0 := (k2.ext Y).cells.1; have q1 := (k2.ext Y).cells.2)
     | (go_at_call 94; (with_reducible refine (TE2 _ _ ?h).mono ?_); (case h => exact hA2); rintro e wz ⟨⟨t2, rfl, hZ⟩, xz⟩; (try replace hA1 := hA1.ext xz); (try replace hA2 := hA2.ext xz); (try replace hX := hX.ext xz); replace Y := Y.trans xz; have p0 := (k1.ext Y).cells.1; have p1 := (k1.ext Y).cells.2; have q0 := (k2.ext Y).cells.1; have q1 := (k2.ext Y).cells.2))
    all_goals
     go_wp2_with fail
     go_meet
     case rel => exact ⟨hX, hZ, Y⟩
   case rest =>
    obtain ⟨hX, hZ, xc⟩ := hcut
    have m1 := k1.ext xc
    have m2 := k2.ext xc
    have hxc := hx.trans xc
    clear c0 c1 d0 d1 k1 k2 AM1 AM2 TE1 TE2 Y hY0
    obtain ⟨c0, c1⟩ := m1.cells
    obtain ⟨d0, d1⟩ := m2.cells
    have CX := fun W h h' => dcompare_any u5 u6 _ _ W (hX.ext h) (hZ.ext h') (by omega) (by omega)
    have CZ := fun W h h' => dcompare_any u6 u5 _ _ W (hZ.ext h) (hX.ext h') (by omega) (by omega)
    rw [cmpDg_digs] at CX CZ
    by_cases n1 : A1 < 0
    ·by_cases n2 : A2 < 0
     ·have HV : Hid (RV = cmpN (absN A2 T2) (absN A1 T1)) := Lib.hid (by rw [← hRV]; unfold rcV; rw [if_pos ⟨n1, n2⟩])
      clear hRV
      go_wp2_with fail
      (with_reducible refine (CZ _ (Ext.refl _) (Ext.refl _)).mono ?_)
      rintro e w9 ⟨rfl, x9⟩
      go_wp2_with fail
      go_ret
      exact ⟨retI HV.out.symm, hxc.trans x9⟩
     ·have HV : Hid (RV = -1) := Lib.hid (by rw [← hRV]; unfold rcV; rw [if_neg (fun h => n2 h.2), if_pos n1])
      clear hRV
      go_wp2_with fail
      go_ret
      exact ⟨retI HV.out.symm, hxc⟩
    ·by_cases n2 : A2 < 0
     ·have HV : Hid (RV = 1) := Lib.hid (by rw [← hRV]; unfold rcV; rw [if_neg (fun h => n1 h.1), if_neg n1, if_pos n2])
      clear hRV
      go_wp2_with fail
      go_ret
      exact ⟨retI HV.out.symm, hxc⟩
     ·have HV : Hid (RV = cmpN (absN A1 T1) (absN A2 T2)) := Lib.hid (by rw [← hRV]; unfold rcV; rw [if_neg (fun h => n1 h.1), if_neg n1, if_neg n2])
      clear hRV
      go_wp2_with fail
      (with_reducible refine (CX _ (Ext.refl _) (Ext.refl _)).mono ?_)
      rintro e w9 ⟨rfl, x9⟩
      go_wp2_with fail
      go_ret
      exact ⟨retI HV.out.symm, hxc.trans x9⟩
 ·rw [show goodB M1 S1 = false from by simpa using g1] at G1
  by_cases g2 : goodB M2 S2 = true
  ·rw [g2] at G2
   go_enter Tryz.func64, Tryz.ntmps64
   obtain ⟨c0, c1⟩ := h1.cells
   obtain ⟨d0, d1⟩ := h2.cells
   go_wp2_with fail
   (with_reducible refine (G1 _).mono ?_)
   rintro e w1 ⟨rfl, x1⟩
   replace h1 := h1.ext x1
   replace h2 := h2.ext x1
   replace hx := hx.trans x1
   clear c0 c1 d0 d1
   obtain ⟨c0, c1⟩ := h1.cells
   obtain ⟨d0, d1⟩ := h2.cells
   obtain ⟨f0, f1⟩ := h1.free
   go_wp2_with fail
   (with_reducible refine (G2 _).mono ?_)
   rintro e w2 ⟨rfl, x2⟩
   have h3 : DecIn w.heap.size 0 0 w2 := (h1.stored 0 0).ext x2
   have h4 : DecIn (w.heap.size + 1) M2 S2 w2 := DecIn.ext ((heap_setDec _ _ _ _ _ (by omega)).trans h2) x2
   replace hx := (ext_setDec hx (Nat.le_refl _) 0 0).trans x2
   clear h1 h2
   have h1 := h3
   have h2 := h4
   clear c0 c1 d0 d1 f0 f1
   obtain ⟨W, hW⟩ : ∃ W, w2 = W := ⟨_, rfl⟩
   have k1 : DecIn w.heap.size (cM M1 S1) (cS M1 S1) w2 := by unfold cM cS; rw [if_neg g1, if_neg g1]; exact h1
   have k2 : DecIn (w.heap.size + 1) (cM M2 S2) (cS M2 S2) w2 := by unfold cM cS; rw [if_pos g2, if_pos g2]; exact h2
   rw [hW] at k1 k2 hx ⊢
   clear hW
   rw [eA1, eT1] at k1
   rw [eA2, eT2] at k2
   clear eA1 eT1 eA2 eT2 G1 G2 h1 h2 j1 j2
   have AM1 := fun w => amount_any A1 w i1
   have AM2 := fun w => amount_any A2 w i2
   have TE1 := fun v w h => tens18 A1 T1 i1 r1 v w h
   have TE2 := fun v w h => tens18 A2 T2 i2 r2 v w h
   have l1 := absN_len i1 r1
   have l2 := absN_len i2 r2
   obtain ⟨c0, c1⟩ := k1.cells
   obtain ⟨d0, d1⟩ := k2.cells
   have Y : Ext W W.drew := (Ext.refl _).drew
   have hY0 : True := trivial
   go_upto_region 5 with fail
   go_cut [5, 6] (fun x y wx => DigV x (digs (absN A1 T1)) wx ∧ DigV y (digs (absN A2 T2)) wx ∧ Ext W wx)
   case first =>
    go_region_held3 (fun w' => w'.cell? ⟨w.heap.size, 0, none⟩ = some (.int .i64 A1) ∧ w'.cell? ⟨w.heap.size, 1, none⟩ = some (.int .i64 T1) ∧ w'.cell? ⟨w.heap.size + 1, 0, none⟩ = some (.int .i64 A2) ∧ w'.cell? ⟨w.heap.size + 1, 1, none⟩ = some (.int .i64 T2)) (first | exact ⟨p0, p1, q0, q1⟩ | exact ⟨c0, c1, d0, d1⟩ | go_keep) (first
     | (go_at_call 95; (with_reducible refine (AM1 _).mono ?_); rintro e wz ⟨⟨a1, rfl, hA1⟩, xz⟩; (try replace hA2 := hA2.ext xz); (try replace hX := hX.ext xz); (try replace hZ := hZ.ext xz); replace Y := Y.trans xz; have p0 := (k1.ext Y).cells.1; have p1 := (k1.ext Y).cells.2; have q0 := (k2.ext Y).cells.1; have q1 := (k2.ext Y).cells.2)
     | (go_at_call 95; (with_reducible refine (AM2 _).mono ?_); rintro e wz ⟨⟨a2, rfl, hA2⟩, xz⟩; (try replace hA1 := hA1.ext xz); (try replace hX := hX.ext xz); (try replace hZ := hZ.ext xz); replace Y := Y.trans xz; have p0 := (k1.ext Y).cells.1; have p1 := (k1.ext Y).cells.2; have q0 := (k2.ext Y).cells.1; have q1 := (k2.ext Y).cells.2)
     | (go_at_call 94; (with_reducible refine (TE1 _ _ ?h).mono ?_); (case h => exact hA1); rintro e wz ⟨⟨t1, rfl, hX⟩, xz⟩; (try replace hA1 := hA1.ext xz); (try replace hA2 := hA2.ext xz); (try replace hZ := hZ.ext xz); replace Y := Y.trans xz; have p0 := (k1.ext Y).cells.1; have p1 := (k1.ext Y).cells.2; have q0 := (k2.ext Y).cells.1; have q1 := (k2.ext Y).cells.2)
     | (go_at_call 94; (with_reducible refine (TE2 _ _ ?h).mono ?_); (case h => exact hA2); rintro e wz ⟨⟨t2, rfl, hZ⟩, xz⟩; (try replace hA1 := hA1.ext xz); (try replace hA2 := hA2.ext xz); (try replace hX := hX.ext xz); replace Y := Y.trans xz; have p0 := (k1.ext Y).cells.1; have p1 := (k1.ext Y).cells.2; have q0 := (k2.ext Y).cells.1; have q1 := (k2.ext Y).cells.2))
    all_goals
     go_wp2_with fail
     go_meet
     case rel => exact ⟨hX, hZ, Y⟩
   case rest =>
    obtain ⟨hX, hZ, xc⟩ := hcut
    have m1 := k1.ext xc
    have m2 := k2.ext xc
    have hxc := hx.trans xc
    clear c0 c1 d0 d1 k1 k2 AM1 AM2 TE1 TE2 Y hY0
    obtain ⟨c0, c1⟩ := m1.cells
    obtain ⟨d0, d1⟩ := m2.cells
    have CX := fun W h h' => dcompare_any u5 u6 _ _ W (hX.ext h) (hZ.ext h') (by omega) (by omega)
    have CZ := fun W h h' => dcompare_any u6 u5 _ _ W (hZ.ext h) (hX.ext h') (by omega) (by omega)
    rw [cmpDg_digs] at CX CZ
    by_cases n1 : A1 < 0
    ·by_cases n2 : A2 < 0
     ·have HV : Hid (RV = cmpN (absN A2 T2) (absN A1 T1)) := Lib.hid (by rw [← hRV]; unfold rcV; rw [if_pos ⟨n1, n2⟩])
      clear hRV
      go_wp2_with fail
      (with_reducible refine (CZ _ (Ext.refl _) (Ext.refl _)).mono ?_)
      rintro e w9 ⟨rfl, x9⟩
      go_wp2_with fail
      go_ret
      exact ⟨retI HV.out.symm, hxc.trans x9⟩
     ·have HV : Hid (RV = -1) := Lib.hid (by rw [← hRV]; unfold rcV; rw [if_neg (fun h => n2 h.2), if_pos n1])
      clear hRV
      go_wp2_with fail
      go_ret
      exact ⟨retI HV.out.symm, hxc⟩
    ·by_cases n2 : A2 < 0
     ·have HV : Hid (RV = 1) := Lib.hid (by rw [← hRV]; unfold rcV; rw [if_neg (fun h => n1 h.1), if_neg n1, if_pos n2])
      clear hRV
      go_wp2_with fail
      go_ret
      exact ⟨retI HV.out.symm, hxc⟩
     ·have HV : Hid (RV = cmpN (absN A1 T1) (absN A2 T2)) := Lib.hid (by rw [← hRV]; unfold rcV; rw [if_neg (fun h => n1 h.1), if_neg n1, if_neg n2])
      clear hRV
      go_wp2_with fail
      (with_reducible refine (CX _ (Ext.refl _) (Ext.refl _)).mono ?_)
      rintro e w9 ⟨rfl, x9⟩
      go_wp2_with fail
      go_ret
      exact ⟨retI HV.out.symm, hxc.trans x9⟩
  ·rw [show goodB M2 S2 = false from by simpa using g2] at G2
   go_enter Tryz.func64, Tryz.ntmps64
   obtain ⟨c0, c1⟩ := h1.cells
   obtain ⟨d0, d1⟩ := h2.cells
   go_wp2_with fail
   (with_reducible refine (G1 _).mono ?_)
   rintro e w1 ⟨rfl, x1⟩
   replace h1 := h1.ext x1
   replace h2 := h2.ext x1
   replace hx := hx.trans x1
   clear c0 c1 d0 d1
   obtain ⟨c0, c1⟩ := h1.cells
   obtain ⟨d0, d1⟩ := h2.cells
   obtain ⟨f0, f1⟩ := h1.free
   go_wp2_with fail
   (with_reducible refine (G2 _).mono ?_)
   rintro e w2 ⟨rfl, x2⟩
   have h3 : DecIn w.heap.size 0 0 w2 := (h1.stored 0 0).ext x2
   have h4 : DecIn (w.heap.size + 1) M2 S2 w2 := DecIn.ext ((heap_setDec _ _ _ _ _ (by omega)).trans h2) x2
   replace hx := (ext_setDec hx (Nat.le_refl _) 0 0).trans x2
   clear h1 h2
   have h1 := h3
   have h2 := h4
   clear c0 c1 d0 d1 f0 f1
   obtain ⟨f0, f1⟩ := h2.free
   have k1 : DecIn w.heap.size (cM M1 S1) (cS M1 S1) (setDec w2 (w.heap.size + 1) 0 0) := by unfold cM cS; rw [if_neg g1, if_neg g1]; exact (heap_setDec _ _ _ _ _ (by omega)).trans h1
   have k2 : DecIn (w.heap.size + 1) (cM M2 S2) (cS M2 S2) (setDec w2 (w.heap.size + 1) 0 0) := by unfold cM cS; rw [if_neg g2, if_neg g2]; exact h2.stored 0 0
   obtain ⟨d0, d1⟩ := h2.cells
   replace hx := ext_setDec hx (Nat.le_succ _) 0 0
   go_upto_region 5 with fail
   change Code.wp _ _ _ _ (setDec w2 (w.heap.size + 1) 0 0)
   generalize setDec w2 (w.heap.size + 1) 0 0 = W at *
   clear d0 d1 f0 f1
   rw [eA1, eT1] at k1
   rw [eA2, eT2] at k2
   clear eA1 eT1 eA2 eT2 G1 G2 h1 h2 j1 j2
   have AM1 := fun w => amount_any A1 w i1
   have AM2 := fun w => amount_any A2 w i2
   have TE1 := fun v w h => tens18 A1 T1 i1 r1 v w h
   have TE2 := fun v w h => tens18 A2 T2 i2 r2 v w h
   have l1 := absN_len i1 r1
   have l2 := absN_len i2 r2
   obtain ⟨c0, c1⟩ := k1.cells
   obtain ⟨d0, d1⟩ := k2.cells
   have Y : Ext W W.drew := (Ext.refl _).drew
   have hY0 : True := trivial
   go_upto_region 5 with fail
   go_cut [5, 6] (fun x y wx => DigV x (digs (absN A1 T1)) wx ∧ DigV y (digs (absN A2 T2)) wx ∧ Ext W wx)
   case first =>
    go_region_held3 (fun w' => w'.cell? ⟨w.heap.size, 0, none⟩ = some (.int .i64 A1) ∧ w'.cell? ⟨w.heap.size, 1, none⟩ = some (.int .i64 T1) ∧ w'.cell? ⟨w.heap.size + 1, 0, none⟩ = some (.int .i64 A2) ∧ w'.cell? ⟨w.heap.size + 1, 1, none⟩ = some (.int .i64 T2)) (first | exact ⟨p0, p1, q0, q1⟩ | exact ⟨c0, c1, d0, d1⟩ | go_keep) (first
     | (go_at_call 95; (with_reducible refine (AM1 _).mono ?_); rintro e wz ⟨⟨a1, rfl, hA1⟩, xz⟩; (try replace hA2 := hA2.ext xz); (try replace hX := hX.ext xz); (try replace hZ := hZ.ext xz); replace Y := Y.trans xz; have p0 := (k1.ext Y).cells.1; have p1 := (k1.ext Y).cells.2; have q0 := (k2.ext Y).cells.1; have q1 := (k2.ext Y).cells.2)
     | (go_at_call 95; (with_reducible refine (AM2 _).mono ?_); rintro e wz ⟨⟨a2, rfl, hA2⟩, xz⟩; (try replace hA1 := hA1.ext xz); (try replace hX := hX.ext xz); (try replace hZ := hZ.ext xz); replace Y := Y.trans xz; have p0 := (k1.ext Y).cells.1; have p1 := (k1.ext Y).cells.2; have q0 := (k2.ext Y).cells.1; have q1 := (k2.ext Y).cells.2)
     | (go_at_call 94; (with_reducible refine (TE1 _ _ ?h).mono ?_); (case h => exact hA1); rintro e wz ⟨⟨t1, rfl, hX⟩, xz⟩; (try replace hA1 := hA1.ext xz); (try replace hA2 := hA2.ext xz); (try replace hZ := hZ.ext xz); replace Y := Y.trans xz; have p0 := (k1.ext Y).cells.1; have p1 := (k1.ext Y).cells.2; have q0 := (k2.ext Y).cells.1; have q1 := (k2.ext Y).cells.2)
     | (go_at_call 94; (with_reducible refine (TE2 _ _ ?h).mono ?_); (case h => exact hA2); rintro e wz ⟨⟨t2, rfl, hZ⟩, xz⟩; (try replace hA1 := hA1.ext xz); (try replace hA2 := hA2.ext xz); (try replace hX := hX.ext xz); replace Y := Y.trans xz; have p0 := (k1.ext Y).cells.1; have p1 := (k1.ext Y).cells.2; have q0 := (k2.ext Y).cells.1; have q1 := (k2.ext Y).cells.2))
    all_goals
     go_wp2_with fail
     go_meet
     case rel => exact ⟨hX, hZ, Y⟩
   case rest =>
    obtain ⟨hX, hZ, xc⟩ := hcut
    have m1 := k1.ext xc
    have m2 := k2.ext xc
    have hxc := hx.trans xc
    clear c0 c1 d0 d1 k1 k2 AM1 AM2 TE1 TE2 Y hY0
    obtain ⟨c0, c1⟩ := m1.cells
    obtain ⟨d0, d1⟩ := m2.cells
    have CX := fun W h h' => dcompare_any u5 u6 _ _ W (hX.ext h) (hZ.ext h') (by omega) (by omega)
    have CZ := fun W h h' => dcompare_any u6 u5 _ _ W (hZ.ext h) (hX.ext h') (by omega) (by omega)
    rw [cmpDg_digs] at CX CZ
    by_cases n1 : A1 < 0
    ·by_cases n2 : A2 < 0
     ·have HV : Hid (RV = cmpN (absN A2 T2) (absN A1 T1)) := Lib.hid (by rw [← hRV]; unfold rcV; rw [if_pos ⟨n1, n2⟩])
      clear hRV
      go_wp2_with fail
      (with_reducible refine (CZ _ (Ext.refl _) (Ext.refl _)).mono ?_)
      rintro e w9 ⟨rfl, x9⟩
      go_wp2_with fail
      go_ret
      exact ⟨retI HV.out.symm, hxc.trans x9⟩
     ·have HV : Hid (RV = -1) := Lib.hid (by rw [← hRV]; unfold rcV; rw [if_neg (fun h => n2 h.2), if_pos n1])
      clear hRV
      go_wp2_with fail
      go_ret
      exact ⟨retI HV.out.symm, hxc⟩
    ·by_cases n2 : A2 < 0
     ·have HV : Hid (RV = 1) := Lib.hid (by rw [← hRV]; unfold rcV; rw [if_neg (fun h => n1 h.1), if_neg n1, if_pos n2])
      clear hRV
      go_wp2_with fail
      go_ret
      exact ⟨retI HV.out.symm, hxc⟩
     ·have HV : Hid (RV = cmpN (absN A1 T1) (absN A2 T2)) := Lib.hid (by rw [← hRV]; unfold rcV; rw [if_neg (fun h => n1 h.1), if_neg n1, if_neg n2])
      clear hRV
      go_wp2_with fail
      (with_reducible refine (CX _ (Ext.refl _) (Ext.refl _)).mono ?_)
      rintro e w9 ⟨rfl, x9⟩
      go_wp2_with fail
      go_ret
      exact ⟨retI HV.out.symm, hxc.trans x9⟩
end Go.Proofs.YtjjnmefihdjglaaGreat
