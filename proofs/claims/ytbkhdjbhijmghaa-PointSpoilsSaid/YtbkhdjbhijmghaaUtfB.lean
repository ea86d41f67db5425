/- The walks of utf.Next, utf.walk, utf.Bad, utf.Count over utf.front's contract. -/
import Derived.Test.YtbkhdjbhijmghaaUtfA
namespace Go.Proofs.Ytbkhdjbhijmghaa
open Go.RowKit

set_option maxHeartbeats 1000000 in
set_option maxRecDepth 100000 in
theorem walk_any (s : ByteArray) (w : World) (hs : s.size ≤ 9223372036854775807) :
    Calls Try.prog 59 #[.string s] w fun e w' =>
      e = .returned (.tuple #[.int .i64 (walkL (bs s)).1, .int .i64 (walkL (bs s)).2]) ∧ Ext w w' := by
  go_enter Try.func59, Try.ntmps59
  go_wp2_with fail
  go_loopw [4, 5] (fun c p wr => ∃ c' p' f : Nat, p' ≤ s.size ∧ c' ≤ p' ∧ s.size ≤ p' + f ∧ c = .int .i64 c' ∧ p = .int .i64 p' ∧ Hid (walkGo f c' p' ((bs s).drop p') = walkL (bs s)) ∧ Ext w wr) (fun _ p _ => s.size - (intOf p).toNat)
  case atStart => exact ⟨0, 0, (bs s).length, by omega, by omega, by rw [length_bs]; omega, rfl, rfl, rfl, Ext.refl _⟩
  case round =>
    obtain ⟨c', p', f, g1, g2, g3, rfl, rfl, g4, hx⟩ := hrel
    by_cases hp : p' < s.size
    · have HD := Lib.hid (drop_bs s p' hp)
      have hb := frontL_bounds ((bs s).drop p')
      rw [List.length_drop, length_bs] at hb
      go_wp2_with fail
      refine (front_any s p' _ hp hs).mono ?_
      rintro e w1 ⟨rfl, hx1⟩
      cases hk : (frontL ((bs s).drop p')).2.2
      · have HB := Lib.hid hk
        go_wp2_with fail
        go_ret2
        have hg := g4
        unfold Hid at hg
        rw [HD.out] at hg HB ⊢
        rw [walkGo_bad _ _ (by omega) HB.out] at hg
        rw [← hg]
        exact ⟨ret2 rfl (vI (by simp)), hx.trans hx1⟩
      · have HB := Lib.hid hk
        have h1 := hb.2.2 hk
        clear hk
        go_wp2_with fail
        go_roundw
        case rel =>
          have hg := g4
          unfold Hid at hg
          rw [HD.out, walkGo_ok _ _ (by omega) (by rw [← HD.out]; exact HB.out), ← HD.out, List.drop_drop] at hg
          exact ⟨c' + 1, p' + (frontL ((bs s).drop p')).2.1, f - 1, by omega, by omega, by omega, vI (by omega), vI (by omega), hg, hx.trans hx1⟩
        case measure => simp [intOf]; omega
    · have HD := Lib.hid (drop_bs_nil s p' (by omega))
      go_wp2_with fail
      go_ret2
      have hg := g4
      unfold Hid at hg
      rw [HD.out, walkGo_nil] at hg
      rw [← hg]
      exact ⟨rfl, hx⟩

set_option maxRecDepth 100000 in
theorem Bad_any (s : ByteArray) (w : World) (hs : s.size ≤ 9223372036854775807) :
    Calls Try.prog 54 #[.string s] w fun e w' => e = .returned (.int .i64 (badL (bs s))) ∧ Ext w w' := by
  go_enter Try.func54, Try.ntmps54
  go_wp2_with fail
  refine (walk_any s _ hs).mono ?_
  rintro e w1 ⟨rfl, hx⟩
  go_wp2_with fail
  go_ret
  exact ⟨rfl, hx⟩

end Go.Proofs.Ytbkhdjbhijmghaa
