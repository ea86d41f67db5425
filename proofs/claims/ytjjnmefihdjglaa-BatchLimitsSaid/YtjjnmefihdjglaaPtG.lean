/- The law of chapter 8: what is known, what is short: the walks. -/
import Derived.Test.YtjjnmefihdjglaaPtF
import Derived.Test.YtjjnmefihdjglaaRefCmp
namespace Go.Proofs.Ytjjnmefihdjglaa
open Go.RowKit

theorem good_at (k r : Int) (f : Bool) (M S m s : Int) (t : Bool) (T : Int) (b : Bool) (hb : goodPt k [] r f M S m s t T = b) (i1 : I64 M) (j1 : I64 S) (i2 : I64 m) (j2 : I64 s) (w : World) :
    Calls Try.prog 38 #[.int .i64 k, .agg #[.slice none 0 0, .int .i64 r, .bool f, .int .i64 M, .int .i64 S, .int .i64 m, .int .i64 s, .bool t, .int .i64 T]] w fun e w' => e = .returned (.bool b) ∧ Ext w w' := by
  have := ptGood_any k none 0 [] r f M S m s t T w (by simp) (LabA.nil _ _) (by intro x hx; cases hx) i1 j1 i2 j2
  rw [hb] at this
  exact this
theorem roles_len (k : Int) (w : World) :
    Calls Try.prog 62 #[.int .i64 k] w fun e w' => (∃ a c, e = .returned (.slice a (rolesOf k).length c) ∧ IntsV (.slice a (rolesOf k).length c) (rolesOf k) w') ∧ Ext w w' := by
  refine (Roles_any _ k w rfl).mono ?_
  rintro e w' ⟨⟨v, rfl, h⟩, x⟩
  refine ⟨?_, x⟩
  have h' := h
  rcases h with ⟨h1, rfl⟩ | ⟨b, rfl, h2⟩
  · exact ⟨none, 0, by rw [h1]; rfl, by rw [h1] at h' ⊢; exact h'⟩
  · exact ⟨_, _, rfl, h'⟩

/-- Whether a point's labels are short. -/
def shortL (l : List (ByteArray × ByteArray)) : Bool := l.all (fun x => decide (x.1.size ≤ 100) && decide (x.2.size ≤ 100)) && decide (l.length ≤ 12)
end Go.Proofs.Ytjjnmefihdjglaa

namespace Go.Proofs.Ytjjnmefihdjglaa
open Go.RowKit

set_option maxRecDepth 100000 in
theorem rRoles_any (F : Nat) (k : Int) (w : World) (hF : F = 15) :
    Calls Try.prog F #[.int .i64 k] w fun e w' => (∃ v, e = .returned v ∧ IntsV v (rolesOf k) w') ∧ Ext w w' := by
  subst hF
  have mk : ∀ (l : List Int) (o : Obj), o = .cells (l.map fun x => Value.int .i64 x).toArray 3 → ∀ n c, n = l.length → c = l.length → (∃ v, Ending.returned (.slice (some ⟨w.heap.size, 0, none⟩) n c) = .returned v ∧ IntsV v l (w.alloc o)) ∧ Ext w (w.alloc o) := by
    rintro l o rfl n c rfl rfl
    exact ⟨⟨_, rfl, .inr ⟨w.heap.size, rfl, by rw [heap_size_alloc]; omega, IntsAt.mk l (heap_last _ _)⟩⟩, (Ext.refl _).alloc _⟩
  unfold rolesOf
  by_cases h0 : k = 0
  · subst h0
    rw [if_pos (by decide)]
    go_enter Try.func15, Try.ntmps15
    go_wp2_with fail
    go_ret
    exact mk [0] _ rfl _ _ rfl rfl
  · by_cases h1 : k = 1
    · subst h1
      rw [if_pos (by decide)]
      go_enter Try.func15, Try.ntmps15
      go_wp2_with fail
      go_ret
      exact mk [0] _ rfl _ _ rfl rfl
    · by_cases h2 : k = 2
      · subst h2
        rw [if_pos (by decide)]
        go_enter Try.func15, Try.ntmps15
        go_wp2_with fail
        go_ret
        exact mk [0] _ rfl _ _ rfl rfl
      · rw [if_neg (by omega)]
        by_cases h3 : k = 3
        · subst h3
          rw [if_pos rfl]
          go_enter Try.func15, Try.ntmps15
          go_wp2_with fail
          go_ret
          exact mk [1, 3, 4] _ rfl _ _ rfl rfl
        · rw [if_neg h3]
          by_cases h4 : k = 4
          · subst h4
            rw [if_pos rfl]
            go_enter Try.func15, Try.ntmps15
            go_wp2_with fail
            go_ret
            exact mk [2, 3, 4] _ rfl _ _ rfl rfl
          · rw [if_neg h4]
            go_enter Try.func15, Try.ntmps15
            go_wp2_with fail
            go_ret
            exact ⟨⟨_, rfl, .inl ⟨rfl, rfl⟩⟩, Ext.refl _⟩


set_option maxHeartbeats 2000000 in
set_option maxRecDepth 100000 in
theorem rHasRole_any (k r : Int) (w : World) :
    Calls Try.prog 14 #[.int .i64 k, .int .i64 r] w fun e w' => e = .returned (.bool (decide (r ∈ rolesOf k))) ∧ Ext w w' := by
  have C := fun w => rRoles_any _ k w rfl
  have hL : (rolesOf k).length ≤ 3 := by unfold rolesOf; (repeat' split) <;> decide
  obtain ⟨R, hR⟩ : ∃ R, decide (r ∈ rolesOf k) = R := ⟨_, rfl⟩
  rw [hR]
  generalize rolesOf k = l at *
  go_enter Try.func14, Try.ntmps14
  go_wp2_with fail
  (with_reducible refine (C _).mono ?_)
  rintro e W ⟨⟨v, rfl, hv⟩, hx⟩
  clear C
  rcases hv with ⟨rfl, rfl⟩ | ⟨b, rfl, hb, hc⟩
  · have HV : Hid (R = false) := Lib.hid (by rw [← hR]; simp)
    clear hR
    go_wp2_with fail
    refine wp_loop_rounds 1 ?_
    rw [rounds_succ]
    go_wp2_with fail
    go_ret
    exact ⟨retB HV.out.symm, hx⟩
  · go_wp2_with fail
    go_loopw [6] (fun i wr => ∃ j : Nat, i = .int .i64 j ∧ j ≤ l.length ∧ Hid (decide (r ∈ l.drop j) = R) ∧ wr = W) (fun i _ => l.length - (intOf i).toNat)
    case atStart => exact ⟨0, rfl, Nat.zero_le _, Lib.hid hR, rfl⟩
    case round =>
      obtain ⟨j, rfl, hk, hz, rfl⟩ := hrel
      by_cases hlt : j < l.length
      · have g := hc j hlt
        have hd := hz.out
        rw [List.drop_eq_getElem_cons hlt] at hd
        rw [Nat.zero_add] at g
        generalize l[j] = y at *
        clear hz hR hc
        by_cases h0 : y = r
        · subst h0
          have HV : Hid (R = true) := Lib.hid (by rw [← hd]; simp)
          clear hd
          go_wp2_with fail
          go_ret
          exact ⟨retB HV.out.symm, hx⟩
        · have HV : Hid (decide (r ∈ l.drop (j + 1)) = R) := Lib.hid (by rw [← hd]; simp [Ne.symm h0])
          clear hd
          go_wp2_with fail
          go_roundw
          case rel => exact ⟨j + 1, rfl, hlt, HV, by first | trivial | rfl⟩
          case measure => simp only [intOf]; omega
      · have hd := hz.out
        rw [List.drop_eq_nil_of_le (by omega)] at hd
        have hk2 : l.length ≤ j := by omega
        have HV : Hid (R = false) := Lib.hid (by rw [← hd]; simp)
        clear hz hR hk hd hc
        go_wp2_with fail
        go_ret
        exact ⟨retB HV.out.symm, hx⟩
end Go.Proofs.Ytjjnmefihdjglaa
