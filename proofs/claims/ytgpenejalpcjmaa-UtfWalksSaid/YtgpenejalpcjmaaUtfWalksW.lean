/- The walk of the law UtfWalks. -/
import Derived.Test.YtgpenejalpcjmaaUtfK
import Derived.Test.YtgpenejalpcjmaaLawUtf
namespace Go.Proofs.Ytgpenejalpcjmaa
open Go.RowKit

set_option maxHeartbeats 2000000 in
set_option maxRecDepth 100000 in
theorem Walks_walk (s : ByteArray) (w : World) (hs : s.size ≤ 9223372036854775807) :
    Calls Try.prog 7 #[.string s] w fun e w' => e = .returned (.bool true) ∧ Ext w w' := by
  by_cases hl : 200 < s.size
  · go_enter Try.func7, Try.ntmps7
    go_wp2_with fail
    refine (known_any _).mono ?_
    rintro e w1 ⟨rfl, x1⟩
    go_wp2_with fail
    go_ret
    exact ⟨rfl, x1⟩
  · go_enter Try.func7, Try.ntmps7
    go_wp2_with fail
    refine (known_any _).mono ?_
    rintro e w1 ⟨rfl, x1⟩
    go_wp2_with fail
    go_loopw [3, 4] (fun p c wr => ∃ p' c' f : Nat, p' ≤ s.size ∧ c' ≤ p' ∧ s.size ≤ p' + f ∧ p = .int .i64 p' ∧ c = .int .i64 c' ∧ Hid (walkGo f c' p' ((bs s).drop p') = walkL (bs s)) ∧ Ext w wr) (fun p _ _ => s.size - (intOf p).toNat)
    case atStart => exact ⟨0, 0, (bs s).length, by omega, by omega, by rw [length_bs]; omega, rfl, rfl, rfl, x1⟩
    case round =>
      obtain ⟨p', c', f, g1, g2, g3, rfl, rfl, G, x2⟩ := hrel
      by_cases hp : p' < s.size
      · have hd := drop_bs s p' hp
        have hbd := frontL_bounds ((bs s).drop p')
        rw [List.length_drop, length_bs] at hbd
        have hnx : nextS s p' = if (frontL ((bs s).drop p')).2.2 then frontL ((bs s).drop p') else (0, 0, false) := if_neg (by omega)
        have hg := G
        unfold Hid at hg
        cases hb : (frontL ((bs s).drop p')).2.2 with
        | false =>
          rw [hb] at hnx
          have N := Next_at s p' (0, 0, false) hnx hs
          have hsh := frontL_short _ hb
          obtain ⟨n, hn⟩ : ∃ n, (frontL ((bs s).drop p')).2.1 = n := ⟨_, rfl⟩
          rw [hn] at hsh hbd
          rw [hd] at hg hb hn
          rw [walkGo_bad _ _ (by omega) hb, hn] at hg
          have C := Count_at s (-1) (by rw [countL, ← hg]) hs
          have B := Bad_at s ((p' + n : Nat) : Int) (by rw [badL, ← hg]) hs
          have e1 : (p' : Int) ≤ ((p' + n : Nat) : Int) := by omega
          have e2 : ((p' + n : Nat) : Int) ≤ p' + 3 := by omega
          clear hd hnx hb hn hg
          go_wp2_with fail
          refine (N _).mono ?_
          rintro e w3 ⟨rfl, x3⟩
          go_wp2_with fail
          refine (C _).mono ?_
          rintro e w4 ⟨rfl, x4⟩
          go_wp2_with fail
          refine (B _).mono ?_
          rintro e w5 ⟨rfl, x5⟩
          go_wp2_with fail
          refine (B _).mono ?_
          rintro e w6 ⟨rfl, x6⟩
          go_wp2_with fail
          go_ret
          exact ⟨ret1 (vB (by simp; omega)), x2.trans (x3.trans (x4.trans (x5.trans x6)))⟩
        | true =>
          rw [hb, if_pos rfl] at hnx
          obtain ⟨i1, i2⟩ := enc_cut s p' hb
          have hpos := hbd.2.2 hb
          obtain ⟨⟨r, n, b⟩, hq⟩ : ∃ q, frontL ((bs s).drop p') = q := ⟨_, rfl⟩
          rw [hq] at hb hnx i1 i2 hbd hpos
          simp only at hb i1 i2 hbd hpos
          subst hb
          rw [hd, walkGo_ok _ _ (by omega) (by rw [← hd, hq]), ← hd, hq, List.drop_drop] at hg
          have HG := Lib.hid hg
          have N := Next_at s p' _ hnx hs
          have E := Encode_at r _ true i2 i1
          have b1 := hbd.1
          have b2 := hbd.2.1
          clear hd hnx hq i1 i2 hbd hg
          go_wp2_with fail
          refine (N _).mono ?_
          rintro e w3 ⟨rfl, x3⟩
          go_wp2_with fail
          refine (E _).mono ?_
          rintro e w4 ⟨rfl, x4⟩
          go_wp2_with fail
          go_roundw
          case rel => exact ⟨p' + n, c' + 1, f - 1, by omega, by omega, by omega, vI (by omega), vI (by omega), HG.out, x2.trans (x3.trans x4)⟩
          case measure => simp [intOf]; omega
      · have hd := drop_bs_nil s p' (by omega)
        have hg := G
        unfold Hid at hg
        rw [hd, walkGo_nil] at hg
        have C := Count_at s c' (by rw [countL, ← hg]) hs
        have B := Bad_at s (-1) (by rw [badL, ← hg]) hs
        clear hd hg
        go_wp2_with fail
        refine (C _).mono ?_
        rintro e w4 ⟨rfl, x4⟩
        go_wp2_with fail
        refine (B _).mono ?_
        rintro e w5 ⟨rfl, x5⟩
        go_wp2_with fail
        go_ret
        exact ⟨rfl, x2.trans (x4.trans x5)⟩
end Go.Proofs.Ytgpenejalpcjmaa
