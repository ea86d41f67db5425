/- The walks of the document's digits, amount, trim. -/
import Derived.Test.YtiancppdcfahaaaDoorRefB
namespace Go.Proofs.YtiancppdcfahaaaDoor
open Go.RowKit

theorem digits_bound {N N' k : Nat} (h : N' * 10 ^ k ≤ N) (h0 : 0 < N') (hN : N < 18446744073709551616) : k < 20 := by
  have h1 : 10 ^ k ≤ N := Nat.le_trans (Nat.le_mul_of_pos_left _ h0) h
  have h2 : 10 ^ k < 10 ^ 20 := by
    have : (18446744073709551616 : Nat) < 10 ^ 20 := by decide
    omega
  exact (Nat.pow_lt_pow_iff_right (by omega)).1 h2

set_option maxHeartbeats 2000000 in
set_option maxRecDepth 100000 in
theorem digits_any (N : Nat) (w : World) (hN : N < W64) :
    Calls Tryd.prog 36 #[.int .u64 N] w fun e w' => (∃ v, e = .returned v ∧ DigV v (digs N) w') ∧ Ext w w' := by
  unfold W64 at hN
  go_enter Tryd.func36, Tryd.ntmps36
  go_wp2_with fail
  go_loopw [0, 3] (fun n v wr => ∃ (N' : Nat) (l : List Nat), n = .int .u64 N' ∧ N' ≤ N ∧ DigV v l wr ∧ Hid (digs N = digs N' ++ l) ∧ Hid (N' * 10 ^ l.length ≤ N) ∧ l.length < 21 ∧ Ext w wr) (fun n _ _ => (intOf n).toNat)
  case atStart => exact ⟨N, [], rfl, Nat.le_refl _, .inl ⟨rfl, rfl⟩, Lib.hid (by simp), Lib.hid (by simp), by simp, Ext.refl _⟩
  case round =>
    obtain ⟨N', l, rfl, hle, hv, hd, hb, hl, hx⟩ := hrel
    obtain ⟨p, c, hform⟩ := hv.form
    by_cases h0 : 0 < N'
    · have hl2 := digits_bound hb.out h0 hN
      have hd2 : Hid (digs N = digs (N' / 10) ++ ((N' % 10) :: l)) := Lib.hid (by rw [hd.out, digs_pos h0]; simp)
      have hb2 : Hid (N' / 10 * 10 ^ ((N' % 10) :: l).length ≤ N) := Lib.hid (by
        rw [List.length_cons, Nat.pow_succ, Nat.mul_comm (10 ^ l.length), ← Nat.mul_assoc]
        exact Nat.le_trans (Nat.mul_le_mul_right _ (by omega)) hb.out)
      have hm : IntKind.u8.wrap ((N' : Int) % 10) = ((N' % 10 : Nat) : Int) := by rw [IntKind.wrap_u8]; omega
      clear hd hb
      go_wp2_with (at_builtin; refine wpList_append_dig _ rfl _ _ rfl wr.heap.size (N' % 10) _ l rfl rfl ?c1 ?c2 ?c3 ?_)
      case c1 =>
        refine (Lib.cell_of_heap (heap_last _ _) _).trans ?_
        rfl
      case c2 => exact hv.ext ((Ext.refl _).alloc _)
      case c3 => omega
      intro v' w2 hv' x2
      go_wp2_with fail
      go_roundw
      case rel => exact ⟨N' / 10, (N' % 10) :: l, rfl, by omega, hv', hd2, hb2, by simp only [List.length_cons]; omega, (hx.alloc _).trans x2⟩
      case measure => simp only [intOf]; omega
    · obtain rfl : N' = 0 := by omega
      have hd' := hd.out
      rw [digs_zero, List.nil_append] at hd'
      have HD := Lib.hid hd'
      clear hd hd' hb
      go_wp2_with fail
      go_ret
      exact ⟨⟨_, rfl, by rw [HD.out]; exact hv⟩, hx⟩

set_option maxHeartbeats 2000000 in
set_option maxRecDepth 100000 in
theorem amount_any (m : Int) (w : World) (hm : I64 m) :
    Calls Tryd.prog 24 #[.int .i64 m] w fun e w' => (∃ v, e = .returned v ∧ DigV v (digs m.natAbs) w') ∧ Ext w w' := by
  obtain ⟨h1, h2⟩ := hm
  have C := fun w => digits_any m.natAbs w (by unfold W64; omega)
  by_cases h0 : m < 0
  · have e1 : (m.natAbs : Int) = -(m + 1) + 1 := by omega
    rw [e1] at C
    go_enter Tryd.func24, Tryd.ntmps24
    go_wp2_with fail
    refine (C _).mono ?_
    rintro e w1 ⟨⟨v, rfl, hv⟩, x1⟩
    go_wp2_with fail
    go_ret
    exact ⟨⟨_, rfl, hv⟩, x1⟩
  · have e1 : (m.natAbs : Int) = m := by omega
    rw [e1] at C
    go_enter Tryd.func24, Tryd.ntmps24
    go_wp2_with fail
    refine (C _).mono ?_
    rintro e w1 ⟨⟨v, rfl, hv⟩, x1⟩
    go_wp2_with fail
    go_ret
    exact ⟨⟨_, rfl, hv⟩, x1⟩

theorem DigV.at {b o c : Nat} {l : List Nat} {w : World} (h : DigV (.slice (some ⟨b, o, none⟩) l.length c) l w) (hn : 0 < l.length) : l.length ≤ c ∧ b < w.heap.size ∧ ∀ i (h : i < l.length), w.cell? ⟨b, o + i, none⟩ = some (.int .u8 (l[i] : Int)) := by
  rcases h with ⟨rfl, _⟩ | ⟨b', o', c', h1, h2, h3, h4⟩
  · simp at hn
  · injection h1 with h1 _ h5
    injection h1 with h1
    injection h1 with h6 h7 _
    subst h5 h6 h7
    exact ⟨h2, h3, h4⟩
/-- What a slice of digits looks like that has some. -/
theorem DigV.pos {v : Value} {l : List Nat} {w : World} (h : DigV v l w) (hn : 0 < l.length) : ∃ b o c, v = .slice (some ⟨b, o, none⟩) l.length c ∧ l.length ≤ c ∧ b < w.heap.size ∧ ∀ i (h : i < l.length), w.cell? ⟨b, o + i, none⟩ = some (.int .u8 (l[i] : Int)) := by
  rcases h with ⟨rfl, _⟩ | h
  · simp at hn
  · exact h

theorem trimD_zero (l : List Nat) : trimD (0 :: l) = trimD l := by unfold trimD; rw [List.dropWhile_cons, if_pos (by simp)]
theorem trimD_pos {d : Nat} (l : List Nat) (h : d ≠ 0) : trimD (d :: l) = d :: l := by unfold trimD; rw [List.dropWhile_cons, if_neg (by simpa using h)]

set_option maxHeartbeats 2000000 in
set_option maxRecDepth 100000 in
theorem trim_any (v : Value) (l : List Nat) (w : World) (hv : DigV v l w) (hl : l.length < 100000) :
    Calls Tryd.prog 34 #[v] w fun e w' => (∃ v', e = .returned v' ∧ DigV v' (trimD l) w') ∧ w = w' := by
  go_enter Tryd.func34, Tryd.ntmps34
  go_wp2_with fail
  go_loopw [0] (fun v' wr => ∃ l', DigV v' l' w ∧ l'.length < 100000 ∧ Hid (trimD l' = trimD l) ∧ wr = w) (fun v' _ => match v' with | .slice _ n _ => n | _ => 0)
  case atStart => exact ⟨l, hv, hl, rfl, rfl⟩
  case round =>
    obtain ⟨l', hv', hl', ht, rfl⟩ := hrel
    cases l' with
    | nil =>
      obtain ⟨p, c, rfl⟩ := hv'.form
      rw [List.length_nil] at *
      have HT : Hid ([] = trimD l) := ht.out
      clear ht
      go_wp2_with fail
      go_ret
      exact ⟨⟨_, rfl, by rw [← HT.out]; exact hv'⟩, rfl⟩
    | cons d l' =>
      obtain ⟨b, o, c, rfl, hc, hb, hcell⟩ := hv'.pos (by simp)
      have c0 : wr.cell? ⟨b, o, none⟩ = some (.int .u8 (d : Int)) := hcell 0 (by simp)
      simp only [List.length_cons] at *
      by_cases hd : d = 0
      · subst hd
        have ht2 : Hid (trimD l' = trimD l) := Lib.hid (by rw [← ht.out, trimD_zero])
        clear ht
        go_wp2_with fail
        refine ⟨⟨l', ?_, by omega, ht2, trivial⟩, Nat.lt_succ_self _⟩
        by_cases h1 : c = 1
        · subst h1
          rw [if_pos rfl]
          exact .inr ⟨b, o, _, rfl, by omega, hb, fun i hi => absurd hi (by omega)⟩
        · rw [if_neg h1]
          refine .inr ⟨b, o + 1, _, rfl, by omega, hb, fun i hi => ?_⟩
          have := hcell (i + 1) (by omega)
          rw [show o + 1 + i = o + (i + 1) from by omega]
          exact this
      · have ht2 : Hid (d :: l' = trimD l) := Lib.hid (by rw [← ht.out, trimD_pos _ hd])
        clear ht
        go_wp2_with fail
        go_ret
        exact ⟨⟨_, rfl, by rw [← ht2.out]; exact hv'⟩, rfl⟩
end Go.Proofs.YtiancppdcfahaaaDoor
