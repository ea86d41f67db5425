/- The walks of the reference's span, Front, Next, Bad, Count. -/
import Derived.Test.YtbkhdjbhijmghaaUtfB
import Derived.Test.YtbkhdjbhijmghaaSpecUtf2
namespace Go.Proofs.Ytbkhdjbhijmghaa
open Go.RowKit

set_option maxRecDepth 100000 in
theorem span_any (c : Nat) (w : World) (_h : c < 256) :
    Calls Try.prog 64 #[.int .u8 c] w fun e w' => e = .returned (.tuple #[.int .i64 (spanN c).1, .int .u8 (spanN c).2.1, .int .u8 (spanN c).2.2]) ∧ w = w' := by
  go_enter Try.func64, Try.ntmps64
  go_wp2
  all_goals go_ret3
  all_goals (simp only [beq_iff_eq, beq_eq_false_iff_ne] at *)
  all_goals (refine ⟨?_, trivial⟩; simp (disch := omega) only [spanN, if_pos, if_neg]; rfl)

set_option maxHeartbeats 1000000 in
set_option maxRecDepth 100000 in
theorem Front_any (s : ByteArray) (i : Nat) (w : World) (hi : i < s.size) (hs : s.size ≤ 9223372036854775807) :
    Calls Try.prog 60 #[.string s, .int .i64 i] w fun e w' =>
      e = .returned (.tuple #[.int .i64 (frontL ((bs s).drop i)).2.1, .bool (frontL ((bs s).drop i)).2.2]) ∧ w = w' := by
  have hc : s[i].toNat < 256 := s[i].toNat_lt
  have HL := Lib.hid (drop_bs s i hi)
  have HS := Lib.hid (spanN_size s[i].toNat)
  have hlt := spanN_lt s[i].toNat
  by_cases h0 : sizeN s[i].toNat = 0
  · have h0' : (((spanN s[i].toNat).1 : Int) == 0) = true := by rw [HS.out, h0]; rfl
    have H0 := Lib.hid h0
    clear h0
    go_enter Try.func60, Try.ntmps60
    go_wp2_with (go_at_call 64; refine (span_any _ _ hc).mono ?_; rintro e w' ⟨rfl, rfl⟩)
    go_ret2
    rw [HL.out]
    simp [frontL, H0.out]
  · have h0' : (((spanN s[i].toNat).1 : Int) == 0) = false := by rw [HS.out]; simpa using h0
    have hle : (spanN s[i].toNat).1 ≤ 4 := by rw [HS.out]; have := size_cases s[i].toNat; omega
    have HF : Hid (frontL ((bs s).drop i) = frontGo ((spanN s[i].toNat).1 - 1) 1 (loN s[i].toNat) (hiN s[i].toNat) ((bs s).drop (i + 1)) (headN (sizeN s[i].toNat) s[i].toNat)) := by
      unfold Hid; rw [HL.out, frontL, if_neg h0, HS.out]
    have HB : Hid (1 < (spanN s[i].toNat).1 → (spanN s[i].toNat).2.1 = loN s[i].toNat ∧ (spanN s[i].toNat).2.2 = hiN s[i].toNat) := fun h => by
      have := spanN_lo s[i].toNat (by rw [HS.out] at h; exact h)
      rw [this]; exact ⟨rfl, rfl⟩
    have h1 : 1 ≤ (spanN s[i].toNat).1 := by rw [HS.out]; omega
    clear h0
    go_enter Try.func60, Try.ntmps60
    go_wp2_with (go_at_call 64; refine (span_any _ _ hc).mono ?_; rintro e w' ⟨rfl, rfl⟩)
    go_loop [7, 8, 9] (fun lo hi k => ∃ k' r' lo' hi' : Nat, 1 ≤ k' ∧ k' ≤ (spanN s[i].toNat).1 ∧ i + k' ≤ s.size ∧ lo' < 256 ∧ hi' < 256 ∧ lo = .int .u8 lo' ∧ hi = .int .u8 hi' ∧ k = .int .i64 k' ∧ Hid (frontL ((bs s).drop i) = frontGo ((spanN s[i].toNat).1 - k') k' lo' hi' ((bs s).drop (i + k')) r')) (fun _ _ k => 5 - (intOf k).toNat)
    case atStart =>
      refine ⟨1, headN (sizeN s[i].toNat) s[i].toNat, _, _, by omega, h1, by omega, hlt.1, hlt.2, rfl, rfl, rfl, ?_⟩
      unfold Hid
      rw [HF.out]
      by_cases hg : 1 < (spanN s[i].toNat).1
      · rw [(HB.out hg).1, (HB.out hg).2]
      · rw [show (spanN s[i].toNat).1 - 1 = 0 from by omega, frontGo_end, frontGo_end]
    case round =>
      obtain ⟨k', r', lo', hi', g1, g2, g3, g4, g5, rfl, rfl, rfl, G⟩ := hrel
      by_cases hk : k' < (spanN s[i].toNat).1
      · by_cases hin : i + k' < s.size
        · have HD := Lib.hid (drop_bs s (i + k') hin)
          have hd := s[i + k'].toNat_lt
          by_cases hlo : s[i + k'].toNat < lo'
          · go_wp2_with fail
            go_ret2
            rw [G.out, HD.out, frontGo_bad (by omega) _ _ _ _ _ (by omega)]
            exact ⟨rfl, rfl⟩
          · by_cases hhi : hi' < s[i + k'].toNat
            · go_wp2_with fail
              go_ret2
              rw [G.out, HD.out, frontGo_bad (by omega) _ _ _ _ _ (by omega)]
              exact ⟨rfl, rfl⟩
            · go_wp2_with fail
              go_round
              case rel =>
                refine ⟨k' + 1, r' * 64 + s[i + k'].toNat % 64, 128, 191, by omega, by omega, by omega, by omega, by omega, rfl, rfl, vI (by omega), ?_⟩
                unfold Hid
                rw [G.out, HD.out, frontGo_ok (by omega) _ _ _ _ _ (by omega)]
                rfl
              case measure => simp [intOf]; omega
        · have HD := Lib.hid (drop_bs_nil s (i + k') (by omega))
          have hne : ((k' : Int) == ((spanN s[i].toNat).1 : Int)) = false := by simp; omega
          go_wp2_with fail
          go_ret2
          rw [G.out, HD.out, frontGo_nil (by omega)]
          exact ⟨ret2 rfl (vB rfl), rfl⟩
      · have hne : ((k' : Int) == ((spanN s[i].toNat).1 : Int)) = true := by simp; omega
        have HK : Hid ((spanN s[i].toNat).1 - k' = 0) := by unfold Hid; omega
        go_wp2_with fail
        go_ret2
        rw [G.out, HK.out, frontGo_end]
        exact ⟨ret2 rfl (vB rfl), rfl⟩

end Go.Proofs.Ytbkhdjbhijmghaa
