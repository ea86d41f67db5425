/- The walks of the reference's Next, Bad, Count. -/
import Derived.Test.YtgpenejalpcjmaaUtfC
namespace Go.Proofs.Ytgpenejalpcjmaa
open Go.RowKit

theorem and31 (c : Nat) (h : c < 256) : bits BinOp.and IntKind.i32 (c : Int) 31 = ((headN 2 c : Nat) : Int) := by
  have H : ∀ x : Fin 256, bits BinOp.and IntKind.i32 ((x.val : Nat) : Int) 31 = ((headN 2 x.val : Nat) : Int) := by decide +kernel
  exact H ⟨c, h⟩
theorem and15 (c : Nat) (h : c < 256) : bits BinOp.and IntKind.i32 (c : Int) 15 = ((headN 3 c : Nat) : Int) := by
  have H : ∀ x : Fin 256, bits BinOp.and IntKind.i32 ((x.val : Nat) : Int) 15 = ((headN 3 x.val : Nat) : Int) := by decide +kernel
  exact H ⟨c, h⟩
theorem and7 (c : Nat) (h : c < 256) : bits BinOp.and IntKind.i32 (c : Int) 7 = ((headN 4 c : Nat) : Int) := by
  have H : ∀ x : Fin 256, bits BinOp.and IntKind.i32 ((x.val : Nat) : Int) 7 = ((headN 4 x.val : Nat) : Int) := by decide +kernel
  exact H ⟨c, h⟩

set_option maxHeartbeats 1000000 in
set_option maxRecDepth 100000 in
theorem rNext_any (s : ByteArray) (i : Int) (w : World) (hs : s.size ≤ 9223372036854775807) :
    Calls Try.prog 10 #[.string s, .int .i64 i] w fun e w' =>
      e = .returned (.tuple #[.int .i32 (nextS s i).1, .int .i64 (nextS s i).2.1]) ∧ Ext w w' := by
  by_cases h0 : i < 0
  · have HN : Hid (nextS s i = (0, 0, false)) := if_pos (Or.inl h0)
    go_enter Try.func10, Try.ntmps10
    go_wp2_with fail
    go_ret2
    rw [HN.out]
    exact ⟨rfl, Ext.refl _⟩
  · by_cases h1 : (s.size : Int) ≤ i
    · have HN : Hid (nextS s i = (0, 0, false)) := if_pos (Or.inr h1)
      go_enter Try.func10, Try.ntmps10
      go_wp2_with fail
      go_ret2
      rw [HN.out]
      exact ⟨rfl, Ext.refl _⟩
    · obtain ⟨a, rfl⟩ := Int.eq_ofNat_of_zero_le (show 0 ≤ i by omega)
      have ha : a < s.size := by omega
      have HN : Hid (nextS s a = if (frontL ((bs s).drop a)).2.2 then frontL ((bs s).drop a) else (0, 0, false)) := if_neg (by omega)
      obtain ⟨r, n, b, hf⟩ : ∃ r n b, frontL ((bs s).drop a) = (r, n, b) := ⟨_, _, _, rfl⟩
      rw [hf] at HN
      cases b with
      | false =>
        go_enter Try.func10, Try.ntmps10
        go_wp2_with fail
        refine (Front_any s a _ ha hs).mono ?_
        rintro e w1 ⟨he, rfl⟩
        rw [hf] at he
        subst he
        clear hf
        go_wp2_with fail
        go_ret2
        rw [HN.out]
        exact ⟨rfl, Ext.refl _⟩
      | true =>
        have HD := Lib.hid (drop_bs s a ha)
        have hW : (frontL (s[a].toNat :: (bs s).drop (a + 1))).2.2 = true := by rw [← HD.out, hf]
        have hw := frontL_whole hW
        have hcn := size_cases s[a].toNat
        have hb := frontL_bounds ((bs s).drop a)
        have hc : s[a].toNat < 256 := s[a].toNat_lt
        rw [← HD.out, hf] at hw
        rw [hf, List.length_drop, length_bs] at hb
        obtain ⟨hw1, hw2, hw3⟩ := hw
        simp only at hw1 hb
        rw [← hw1] at hw2 hw3 hcn
        have HG := Lib.hid hw3
        have HSZ := Lib.hid hw1
        have hlo : loN s[a].toNat < 256 ∧ hiN s[a].toNat < 256 := by unfold loN hiN; constructor <;> (repeat' split) <;> omega
        have hbn : n ≤ s.size - a := hb.1
        clear hw1 hw3 hW hb HD
        rcases hcn with hn | hn | hn | hn | hn
        · omega
        · subst hn
          clear hw2
          go_enter Try.func10, Try.ntmps10
          go_wp2_with fail
          refine (Front_any s a _ ha hs).mono ?_
          rintro e w1 ⟨he, rfl⟩
          rw [hf] at he
          subst he
          have HF := Lib.hid hf
          clear hf
          go_wp2_with fail
          go_loop [8, 9] (fun r' k => ∃ k' r'' lo' hi' : Nat, 1 ≤ k' ∧ k' ≤ 1 ∧ ((k' = 1 ∧ r'' < 128) ∨ (k' = 2 ∧ r'' < 8192) ∨ (k' = 3 ∧ r'' < 524288) ∨ (k' = 4 ∧ r'' < 33554432)) ∧ r' = .int .i32 r'' ∧ k = .int .i64 k' ∧ Hid ((r, 1, true) = frontGo (1 - k') k' lo' hi' ((bs s).drop (a + k')) r'')) (fun _ k => 5 - (intOf k).toNat)
          case atStart =>
            refine ⟨1, headN 1 s[a].toNat, _, _, by omega, by omega, Or.inl ⟨rfl, by simp [headN]; omega⟩, vI ?_, rfl, HG.out⟩
            have := lt_of_size1 HSZ.out.symm
            simp [headN]; omega
          case round =>
            obtain ⟨k', r'', lo', hi', g1, g2, g3, rfl, rfl, G⟩ := hrel
            have hk : ¬ k' < 1 := by omega
            · have HK : Hid (k' = 1) := by unfold Hid; omega
              go_wp2_with fail
              go_ret2
              have hG := G.out
              rw [HK.out, frontGo_end] at hG
              injection hG with hG _
              subst hG
              rw [HN.out]
              exact ⟨rfl, Ext.refl _⟩
        · subst hn
          clear hw2
          go_enter Try.func10, Try.ntmps10
          go_wp2_with fail
          refine (Front_any s a _ ha hs).mono ?_
          rintro e w1 ⟨he, rfl⟩
          rw [hf] at he
          subst he
          have HF := Lib.hid hf
          clear hf
          go_wp2_with fail
          go_loop [8, 9] (fun r' k => ∃ k' r'' lo' hi' : Nat, 1 ≤ k' ∧ k' ≤ 2 ∧ ((k' = 1 ∧ r'' < 128) ∨ (k' = 2 ∧ r'' < 8192) ∨ (k' = 3 ∧ r'' < 524288) ∨ (k' = 4 ∧ r'' < 33554432)) ∧ r' = .int .i32 r'' ∧ k = .int .i64 k' ∧ Hid ((r, 2, true) = frontGo (2 - k') k' lo' hi' ((bs s).drop (a + k')) r'')) (fun _ k => 5 - (intOf k).toNat)
          case atStart =>
            refine ⟨1, headN 2 s[a].toNat, _, _, by omega, by omega, Or.inl ⟨rfl, by simp [headN]; omega⟩, vI ?_, rfl, HG.out⟩
            exact and31 _ hc
          case round =>
            obtain ⟨k', r'', lo', hi', g1, g2, g3, rfl, rfl, G⟩ := hrel
            by_cases hk : k' < 2
            · have hin : a + k' < s.size := by omega
              have HE := Lib.hid (drop_bs s (a + k') hin)
              have hd := s[a + k'].toNat_lt
              go_wp2_with fail
              go_round
              case rel =>
                refine ⟨k' + 1, r'' * 64 + s[a + k'].toNat % 64, 128, 191, by omega, by omega, by omega, vI (by omega), vI (by omega), ?_⟩
                have hG := G.out
                rw [HE.out] at hG
                unfold Hid
                rw [hG, frontGo_whole (by omega) _ _ _ _ _ (by rw [← hG])]
                rfl
              case measure => simp [intOf]; omega
            · have HK : Hid (k' = 2) := by unfold Hid; omega
              go_wp2_with fail
              go_ret2
              have hG := G.out
              rw [HK.out, frontGo_end] at hG
              injection hG with hG _
              subst hG
              rw [HN.out]
              exact ⟨rfl, Ext.refl _⟩
        · subst hn
          clear hw2
          go_enter Try.func10, Try.ntmps10
          go_wp2_with fail
          refine (Front_any s a _ ha hs).mono ?_
          rintro e w1 ⟨he, rfl⟩
          rw [hf] at he
          subst he
          have HF := Lib.hid hf
          clear hf
          go_wp2_with fail
          go_loop [8, 9] (fun r' k => ∃ k' r'' lo' hi' : Nat, 1 ≤ k' ∧ k' ≤ 3 ∧ ((k' = 1 ∧ r'' < 128) ∨ (k' = 2 ∧ r'' < 8192) ∨ (k' = 3 ∧ r'' < 524288) ∨ (k' = 4 ∧ r'' < 33554432)) ∧ r' = .int .i32 r'' ∧ k = .int .i64 k' ∧ Hid ((r, 3, true) = frontGo (3 - k') k' lo' hi' ((bs s).drop (a + k')) r'')) (fun _ k => 5 - (intOf k).toNat)
          case atStart =>
            refine ⟨1, headN 3 s[a].toNat, _, _, by omega, by omega, Or.inl ⟨rfl, by simp [headN]; omega⟩, vI ?_, rfl, HG.out⟩
            exact and15 _ hc
          case round =>
            obtain ⟨k', r'', lo', hi', g1, g2, g3, rfl, rfl, G⟩ := hrel
            by_cases hk : k' < 3
            · have hin : a + k' < s.size := by omega
              have HE := Lib.hid (drop_bs s (a + k') hin)
              have hd := s[a + k'].toNat_lt
              go_wp2_with fail
              go_round
              case rel =>
                refine ⟨k' + 1, r'' * 64 + s[a + k'].toNat % 64, 128, 191, by omega, by omega, by omega, vI (by omega), vI (by omega), ?_⟩
                have hG := G.out
                rw [HE.out] at hG
                unfold Hid
                rw [hG, frontGo_whole (by omega) _ _ _ _ _ (by rw [← hG])]
                rfl
              case measure => simp [intOf]; omega
            · have HK : Hid (k' = 3) := by unfold Hid; omega
              go_wp2_with fail
              go_ret2
              have hG := G.out
              rw [HK.out, frontGo_end] at hG
              injection hG with hG _
              subst hG
              rw [HN.out]
              exact ⟨rfl, Ext.refl _⟩
        · subst hn
          clear hw2
          go_enter Try.func10, Try.ntmps10
          go_wp2_with fail
          refine (Front_any s a _ ha hs).mono ?_
          rintro e w1 ⟨he, rfl⟩
          rw [hf] at he
          subst he
          have HF := Lib.hid hf
          clear hf
          go_wp2_with fail
          go_loop [8, 9] (fun r' k => ∃ k' r'' lo' hi' : Nat, 1 ≤ k' ∧ k' ≤ 4 ∧ ((k' = 1 ∧ r'' < 128) ∨ (k' = 2 ∧ r'' < 8192) ∨ (k' = 3 ∧ r'' < 524288) ∨ (k' = 4 ∧ r'' < 33554432)) ∧ r' = .int .i32 r'' ∧ k = .int .i64 k' ∧ Hid ((r, 4, true) = frontGo (4 - k') k' lo' hi' ((bs s).drop (a + k')) r'')) (fun _ k => 5 - (intOf k).toNat)
          case atStart =>
            refine ⟨1, headN 4 s[a].toNat, _, _, by omega, by omega, Or.inl ⟨rfl, by simp [headN]; omega⟩, vI ?_, rfl, HG.out⟩
            exact and7 _ hc
          case round =>
            obtain ⟨k', r'', lo', hi', g1, g2, g3, rfl, rfl, G⟩ := hrel
            by_cases hk : k' < 4
            · have hin : a + k' < s.size := by omega
              have HE := Lib.hid (drop_bs s (a + k') hin)
              have hd := s[a + k'].toNat_lt
              go_wp2_with fail
              go_round
              case rel =>
                refine ⟨k' + 1, r'' * 64 + s[a + k'].toNat % 64, 128, 191, by omega, by omega, by omega, vI (by omega), vI (by omega), ?_⟩
                have hG := G.out
                rw [HE.out] at hG
                unfold Hid
                rw [hG, frontGo_whole (by omega) _ _ _ _ _ (by rw [← hG])]
                rfl
              case measure => simp [intOf]; omega
            · have HK : Hid (k' = 4) := by unfold Hid; omega
              go_wp2_with fail
              go_ret2
              have hG := G.out
              rw [HK.out, frontGo_end] at hG
              injection hG with hG _
              subst hG
              rw [HN.out]
              exact ⟨rfl, Ext.refl _⟩

end Go.Proofs.Ytgpenejalpcjmaa
