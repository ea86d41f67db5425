/- The walks of the reference's Bad and Count. -/
import Derived.Test.YtbkhdjbhijmghaaUtfD
namespace Go.Proofs.Ytbkhdjbhijmghaa
open Go.RowKit

set_option maxHeartbeats 1000000 in
set_option maxRecDepth 100000 in
theorem rBad_any (s : ByteArray) (w : World) (hs : s.size ≤ 9223372036854775807) :
    Calls Try.prog 55 #[.string s] w fun e w' => e = .returned (.int .i64 (badL (bs s))) ∧ Ext w w' := by
  go_enter Try.func55, Try.ntmps55
  go_wp2_with fail
  go_loop [3] (fun p => ∃ c' p' f : Nat, p' ≤ s.size ∧ s.size ≤ p' + f ∧ p = .int .i64 p' ∧ Hid (walkGo f c' p' ((bs s).drop p') = walkL (bs s))) (fun p => s.size - (intOf p).toNat)
  case atStart => exact ⟨0, 0, (bs s).length, by omega, by rw [length_bs]; omega, rfl, rfl⟩
  case round =>
    obtain ⟨c', p', f, g1, g3, rfl, g4⟩ := hrel
    by_cases hp : p' < s.size
    · have HD := Lib.hid (drop_bs s p' hp)
      have hb := frontL_bounds ((bs s).drop p')
      rw [List.length_drop, length_bs] at hb
      go_wp2_with fail
      refine (Front_any s p' _ hp hs).mono ?_
      rintro e w1 ⟨rfl, rfl⟩
      cases hk : (frontL ((bs s).drop p')).2.2
      · have HB := Lib.hid hk
        go_wp2_with fail
        go_ret
        have hg := g4
        unfold Hid at hg
        rw [HD.out] at hg HB ⊢
        rw [walkGo_bad _ _ (by omega) HB.out] at hg
        rw [badL, ← hg]
        exact ⟨retI (by simp), Ext.refl _⟩
      · have HB := Lib.hid hk
        have h1 := hb.2.2 hk
        clear hk
        go_wp2_with fail
        go_round
        case rel =>
          have hg := g4
          unfold Hid at hg
          rw [HD.out, walkGo_ok _ _ (by omega) (by rw [← HD.out]; exact HB.out), ← HD.out, List.drop_drop] at hg
          exact ⟨c' + 1, p' + (frontL ((bs s).drop p')).2.1, f - 1, by omega, by omega, vI (by omega), hg⟩
        case measure => simp [intOf]; omega
    · have HD := Lib.hid (drop_bs_nil s p' (by omega))
      go_wp2_with fail
      go_ret
      have hg := g4
      unfold Hid at hg
      rw [HD.out, walkGo_nil] at hg
      rw [badL, ← hg]
      exact ⟨rfl, Ext.refl _⟩

end Go.Proofs.Ytbkhdjbhijmghaa
