/- The walks of utf.size, utf.second, utf.front: what each call answers; the memory that was there stands. -/
import Derived.Test.YtbkhdjbhijmghaaBase
import Derived.Test.YtbkhdjbhijmghaaSpecUtf
namespace Go.Proofs.Ytbkhdjbhijmghaa
open Go.RowKit

set_option maxRecDepth 100000 in
theorem size_any (c : Nat) (w : World) (h1 : c < 256) :
    Calls Try.prog 65 #[.int .u8 c] w fun e w' => e = .returned (.int .i64 (sizeN c)) ∧ w = w' := by
  go_enter Try.func65, Try.ntmps65
  go_wp2
  all_goals (go_ret; unfold sizeN; refine ⟨?_, rfl⟩; congr 2; (repeat' split) <;> first | rfl | omega)

set_option maxRecDepth 100000 in
theorem second_any (c : Nat) (w : World) :
    Calls Try.prog 66 #[.int .u8 c] w fun e w' => e = .returned (.tuple #[.int .u8 (loN c), .int .u8 (hiN c)]) ∧ w = w' := by
  go_enter Try.func66, Try.ntmps66
  go_wp2
  all_goals (go_ret2; unfold loN hiN; refine ⟨?_, rfl⟩)
  all_goals (simp only [beq_iff_eq, beq_eq_false_iff_ne] at *)
  all_goals (repeat (rw [if_pos (by omega)] <;> skip))
  all_goals (repeat rw [if_neg (by omega)])
  all_goals (repeat rw [if_pos (by omega)])
  all_goals (repeat rw [if_neg (by omega)])
  all_goals rfl

theorem low7 (c : Nat) (h : c < 128) : wrap32 (bits BinOp.and IntKind.u8 (c : Int) 127) = ((headN 1 c : Nat) : Int) := by
  have H : ∀ x : Fin 128, wrap32 (bits BinOp.and IntKind.u8 ((x.val : Nat) : Int) 127) = ((headN 1 x.val : Nat) : Int) := by decide +kernel
  exact H ⟨c, h⟩
theorem lt_of_size1 {c : Nat} (h : sizeN c = 1) : c < 128 := by
  unfold sizeN at h
  (repeat' split at h) <;> first | omega | contradiction

set_option maxHeartbeats 1000000 in
set_option maxRecDepth 100000 in
theorem front_any (s : ByteArray) (i : Nat) (w : World) (hi : i < s.size) (hs : s.size ≤ 9223372036854775807) :
    Calls Try.prog 63 #[.string s, .int .i64 i] w fun e w' =>
      e = .returned (.tuple #[.int .i32 (frontL ((bs s).drop i)).1, .int .i64 (frontL ((bs s).drop i)).2.1, .bool (frontL ((bs s).drop i)).2.2]) ∧ Ext w w' := by
  have hc : s[i].toNat < 256 := s[i].toNat_lt
  have HL := Lib.hid (drop_bs s i hi)
  rcases size_cases s[i].toNat with hn | hn | hn | hn | hn
  · go_enter Try.func63, Try.ntmps63
    go_wp2_with (go_at_call 65; refine (size_any _ _ hc).mono ?_; rintro e w' ⟨rfl, rfl⟩)
    go_ret3
    rw [HL.out]
    simp [frontL, hn, Ext.refl]
  all_goals
    have HN := Lib.hid hn
    have hlo : loN s[i].toNat < 256 ∧ hiN s[i].toNat < 256 := by unfold loN hiN; constructor <;> (repeat' split) <;> omega
    go_enter Try.func63, Try.ntmps63
    go_wp2_with (go_at_call 65; refine (size_any _ _ hc).mono ?_; rintro e w' ⟨rfl, rfl⟩)
    go_quiet (fail)
    clear hn
    go_wp2_with (go_at_call 66; refine (second_any _ _).mono ?_; rintro e w' ⟨rfl, rfl⟩)
    go_loop [9, 10, 11, 12] (fun r lo hi k => ∃ k' r' lo' hi' : Nat, 1 ≤ k' ∧ k' ≤ sizeN s[i].toNat ∧ i + k' ≤ s.size ∧ lo' < 256 ∧ hi' < 256 ∧ ((k' = 1 ∧ r' < 128) ∨ (k' = 2 ∧ r' < 8192) ∨ (k' = 3 ∧ r' < 524288) ∨ (k' = 4 ∧ r' < 33554432)) ∧ r = .int .i32 r' ∧ lo = .int .u8 lo' ∧ hi = .int .u8 hi' ∧ k = .int .i64 k' ∧ frontGo (sizeN s[i].toNat - k') k' lo' hi' ((bs s).drop (i + k')) r' = frontL ((bs s).drop i)) (fun _ _ _ k => 5 - (intOf k).toNat)
    case atStart =>
      refine ⟨1, headN (sizeN s[i].toNat) s[i].toNat, _, _, by omega, by rw [HN.out]; omega, by omega, hlo.1, hlo.2, Or.inl ⟨rfl, ?_⟩, vI ?_, rfl, rfl, rfl, ?_⟩
      · rw [HN.out]; simp [headN]; omega
      · rw [HN.out]; first | (simp [headN]; done) | exact low7 _ (lt_of_size1 HN.out)
      · rw [HL.out]; simp [frontL, HN.out]
    case round =>
      obtain ⟨k', r', lo', hi', g1, g2, g3, g4, g5, g6, rfl, rfl, rfl, rfl, g7⟩ := hrel
      have G7 := Lib.hid g7
      rw [HN.out] at g2
      clear g7
      by_cases hk : k' < sizeN s[i].toNat
      · rw [HN.out] at hk
        try (exfalso; omega)
        all_goals
          by_cases hin : i + k' < s.size
          · have HD := Lib.hid (drop_bs s (i + k') hin)
            have hd := s[i + k'].toNat_lt
            by_cases hlo : s[i + k'].toNat < lo'
            · go_wp2_with fail
              go_ret3
              refine ⟨ret3 (vI ?_) (vI ?_) (vB ?_), ?_⟩
              all_goals try (rw [← G7.out, HD.out, frontGo_bad (by rw [HN.out]; omega) _ _ _ _ _ (by omega)])
              all_goals try rfl
              all_goals exact ((Ext.refl _).alloc _).drewN _
            · by_cases hhi : hi' < s[i + k'].toNat
              · go_wp2_with fail
                go_ret3
                refine ⟨ret3 (vI ?_) (vI ?_) (vB ?_), ?_⟩
                all_goals try (rw [← G7.out, HD.out, frontGo_bad (by rw [HN.out]; omega) _ _ _ _ _ (by omega)])
                all_goals try rfl
                all_goals exact ((Ext.refl _).alloc _).drewN _
              · go_wp2_with fail
                go_round
                case rel =>
                  refine ⟨k' + 1, r' * 64 + s[i + k'].toNat % 64, 128, 191, by omega, by rw [HN.out]; omega, by omega, by omega, by omega, by omega, vI (by omega), rfl, rfl, vI (by omega), ?_⟩
                  rw [← G7.out, HD.out, frontGo_ok (by rw [HN.out]; omega) _ _ _ _ _ (by omega)]
                  rfl
                case measure => simp [intOf]; omega
          · have HD := Lib.hid (drop_bs_nil s (i + k') (by omega))
            go_wp2_with fail
            go_ret3
            refine ⟨ret3 (vI ?_) (vI ?_) (vB ?_), ?_⟩
            all_goals try (rw [← G7.out, HD.out, frontGo_nil (by rw [HN.out]; omega)])
            all_goals try rfl
            all_goals exact ((Ext.refl _).alloc _).drewN _
      · rw [HN.out] at hk
        go_wp2_with fail
        go_ret3
        obtain rfl : k' = sizeN s[i].toNat := by rw [HN.out]; omega
        refine ⟨ret3 (vI ?_) (vI ?_) (vB ?_), ?_⟩
        all_goals try (rw [← G7.out, Nat.sub_self, frontGo_end])
        all_goals try rfl
        · rw [HN.out]; rfl
        all_goals exact ((Ext.refl _).alloc _).drewN _
end Go.Proofs.Ytbkhdjbhijmghaa
