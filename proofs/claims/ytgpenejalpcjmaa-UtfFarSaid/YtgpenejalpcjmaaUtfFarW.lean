/- The walk of the law UtfFar. -/
import Derived.Test.YtgpenejalpcjmaaUtfK
import Derived.Test.YtgpenejalpcjmaaStrs
import Derived.Test.YtgpenejalpcjmaaLawUtf2
import Derived.Deep.RegionHeld3
namespace Go.Proofs.Ytgpenejalpcjmaa
open Go.RowKit

/-- The ends as strings. -/
def closeS : List ByteArray := closers.map ofL
theorem bs_closeS (i : Nat) (h : i < 9) : bs (closeS.getD i ByteArray.empty) = closers.getD i [] ∧ (closeS.getD i ByteArray.empty).size ≤ 3 := by
  obtain rfl | rfl | rfl | rfl | rfl | rfl | rfl | rfl | rfl : i = 0 ∨ i = 1 ∨ i = 2 ∨ i = 3 ∨ i = 4 ∨ i = 5 ∨ i = 6 ∨ i = 7 ∨ i = 8 := by omega
  all_goals exact ⟨by decide +kernel, by decide +kernel⟩

/-- Was one of the first so many ends right? -/
def tried (l : List Nat) (j i : Nat) : Bool := (closers.take i).any fun t => badL (l.take j ++ t) == -1
theorem tried_succ (l : List Nat) (j i : Nat) (h : i < 9) : tried l j (i + 1) = (tried l j i || (badL (l.take j ++ closers.getD i []) == -1)) := by
  have hl : i < closers.length := h
  unfold tried
  rw [List.take_succ_eq_append_getElem hl, List.any_append]
  simp [List.getD_eq_getElem?_getD, List.getElem?_eq_getElem hl]
theorem tried_all (l : List Nat) (j : Nat) (h : badL l = j) : tried l j 9 = true := by
  obtain ⟨t, ht, he⟩ := closes l (by omega)
  rw [h, Int.toNat_natCast] at he
  unfold tried
  rw [List.any_eq_true]
  exact ⟨t, ht, by simpa using he⟩
theorem bs_cut (s : ByteArray) (j : Nat) (t : ByteArray) : bs (s.extract 0 j ++ t) = (bs s).take j ++ bs t := by
  rw [bs_append, bs_extract, List.drop_zero, Nat.sub_zero]
theorem size_cut (s : ByteArray) (j : Nat) (t : ByteArray) (h : j ≤ s.size) : (s.extract 0 j ++ t).size = j + t.size := by
  simp; omega

set_option maxHeartbeats 2000000 in
set_option maxRecDepth 100000 in
theorem Far_walk (s : ByteArray) (A : Option Addr) (cap : Nat) (ss : List ByteArray) (w : World) (hs : s.size ≤ 9223372036854775807) (hss : Strs w A ss) (hsz : ss.length ≤ 9223372036854775807) (hbig : ∀ x ∈ ss, x.size ≤ 9223372036854775807) :
    Calls Try.prog 5 #[.string s, .slice A ss.length cap] w fun e w' => e = .returned (.bool true) ∧ Ext w w' := by
  by_cases hl : 200 < s.size
  · go_enter Try.func5, Try.ntmps5
    go_wp2_with fail
    refine (known_any _).mono ?_
    rintro e w1 ⟨rfl, x1⟩
    go_wp2_with fail
    go_ret
    exact ⟨rfl, x1⟩
  · by_cases hn : 10 < ss.length
    · go_enter Try.func5, Try.ntmps5
      go_wp2_with fail
      refine (known_any _).mono ?_
      rintro e w1 ⟨rfl, x1⟩
      go_wp2_with fail
      go_ret
      exact ⟨rfl, x1⟩
    · obtain ⟨k, hk⟩ : ∃ k, badL (bs s) = k := ⟨_, rfl⟩
      have hkr := badL_range (bs s)
      rw [hk, length_bs] at hkr
      have BD := Bad_at s k hk hs
      by_cases hk0 : k < 0
      · have hz : (s ++ ⟨#[97]⟩).size = s.size + 1 := by simp; rfl
        have B2 := Bad_at (s ++ ⟨#[97]⟩) (-1) (by
          rw [bs_append, (join_good _ _ (by omega)).1, if_pos (by decide)]) (by omega)
        clear hk hz
        go_enter Try.func5, Try.ntmps5
        go_wp2_with fail
        refine (known_any _).mono ?_
        rintro e w1 ⟨rfl, x1⟩
        go_wp2_with fail
        refine (BD _).mono ?_
        rintro e w2 ⟨rfl, x2⟩
        go_wp2_with fail
        refine (B2 _).mono ?_
        rintro e w3 ⟨rfl, x3⟩
        go_wp2_with fail
        go_ret
        exact ⟨rfl, x1.trans (x2.trans x3)⟩
      · obtain ⟨j, rfl⟩ := Int.eq_ofNat_of_zero_le (show 0 ≤ k by omega)
        have HK := Lib.hid hk
        clear hk
        have hjs0 : ¬ s.size < j := by omega
        have hjs1 : ¬ (s.size : Int) < (j : Int) := by omega
        go_enter Try.func5, Try.ntmps5
        go_wp2_with fail
        refine (known_any _).mono ?_
        rintro e w1 ⟨rfl, x1⟩
        go_wp2_with fail
        refine (BD _).mono ?_
        rintro e w2 ⟨rfl, x2⟩
        go_wp2_with fail
        have x3 : Ext w2 (w2.alloc (.cells (closeS.map Value.string).toArray 9)) := (Ext.refl _).alloc _
        have hc3 : Hid (∀ i, i < 9 → (w2.alloc (.cells (closeS.map Value.string).toArray 9)).cell? ⟨w2.heap.size, i, none⟩ = some (.string (closeS.getD i ByteArray.empty))) := by
          intro i hi
          have hl : i < closeS.length := hi
          rw [cell_of_row _ _ _ _ _ _ (heap_alloc_new w2 _)]
          simp [List.getElem?_eq_getElem hl, List.getD_eq_getElem?_getD]
        have hsz2 : w2.heap.size < (w2.alloc (.cells (closeS.map Value.string).toArray 9)).heap.size := by rw [World.size_alloc]; omega
        obtain ⟨w3, hw3⟩ : ∃ w3, w3 = w2.alloc (.cells (closeS.map Value.string).toArray 9) := ⟨_, rfl⟩
        rw [← hw3] at x3 hc3 hsz2
        change Code.wp _ _ _ _ (w2.alloc (.cells (closeS.map Value.string).toArray 9))
        rw [← hw3]
        clear hw3
        go_loopw [6, 38] (fun c i wr => ∃ i' : Nat, i' ≤ 9 ∧ i = .int .i64 i' ∧ c = .bool (tried (bs s) j i') ∧ Ext w3 wr) (fun _ i _ => 9 - (intOf i).toNat)
        case atStart => exact ⟨0, by omega, rfl, rfl, Ext.refl _⟩
        case round =>
          obtain ⟨i', hi, rfl, rfl, x4⟩ := hrel
          by_cases hlt : i' < 9
          · have hcell : wr.cell? ⟨w2.heap.size, i', none⟩ = some (.string (closeS.getD i' ByteArray.empty)) := by
              rw [x4.cell hsz2]; exact hc3.out i' hlt
            have hts := tried_succ (bs s) j i' hlt
            obtain ⟨hb1, hb2⟩ := bs_closeS i' hlt
            obtain ⟨t, ht⟩ : ∃ t, closeS.getD i' ByteArray.empty = t := ⟨_, rfl⟩
            rw [ht] at hcell hb1 hb2
            clear ht
            have hz := size_cut s j t (by omega)
            have BT := Bad_any (s.extract 0 j ++ t)
            rw [bs_cut, hb1] at BT
            rw [← hb1] at hts BT
            cases htr : tried (bs s) j i'
            all_goals
              rw [htr] at hts
              have HT := Lib.hid hts
              clear hts htr hb1
              go_wp2_with fail
              first | (refine (BT _ (by omega)).mono ?_; rintro e w5 ⟨rfl, x5⟩; go_wp2_with fail) | have x5 := Ext.refl wr
              go_roundw
              case rel =>
                have fin : ∃ i2 : Nat, i2 ≤ 9 ∧ (Value.int .i64 ((i' : Int) + 1)) = .int .i64 i2 ∧ Value.bool (tried (bs s) j (i' + 1)) = .bool (tried (bs s) j i2) ∧ Ext w3 _ := ⟨i' + 1, by omega, by go_num, rfl, x4.trans x5⟩
                rw [HT.out] at fin
                simp only [Bool.false_or, Bool.true_or] at fin
                first | exact fin | ((repeat apply Exists.intro); exact ⟨fin, rfl⟩)
              case measure => simp [intOf]; omega
          · obtain rfl : i' = 9 := by omega
            have HA := Lib.hid (tried_all (bs s) j HK.out)
            clear hlt hi
            go_wp2_with fail
            rw [HA.out]
            clear HA hc3
            go_loopw [9] (fun i wr => ∃ i' : Nat, i' ≤ ss.length ∧ i = .int .i64 i' ∧ Ext w wr) (fun i _ => ss.length - (intOf i).toNat)
            case atStart => exact ⟨0, by omega, rfl, x1.trans (x2.trans (x3.trans x4))⟩
            case round =>
              obtain ⟨i', hi, rfl, x5⟩ := hrel
              by_cases hin : i' < ss.length
              · by_cases hjs : j < s.size
                · obtain ⟨a, hA, hab, hc⟩ := hss.ext x5 i' hin
                  subst hA
                  obtain ⟨t, ht⟩ : ∃ t, ss.getD i' ByteArray.empty = t := ⟨_, rfl⟩
                  have htb := hbig t (by rw [← ht, List.getD_eq_getElem?_getD, List.getElem?_eq_getElem hin]; exact List.getElem_mem hin)
                  rw [ht] at hc
                  clear ht
                  by_cases h50 : t.size ≤ 50
                  · have hd : decide ((t.size : Int) ≤ 50) = true := by simp; omega
                    have hz := size_cut s (j + 1) t (by omega)
                    have hbad : badL ((bs s).take (j + 1) ++ bs t) = j := by
                      have h0 : badL ((bs s).take (j + 1)) = j := by
                        exact bad_take _ j HK.out (by rw [length_bs]; exact hjs)
                      rw [join_bad _ _ (by omega) (by rw [h0, List.length_take, length_bs]; omega), h0]
                    have BT := Bad_at (s.extract 0 (j + 1) ++ t) j (by rw [bs_cut]; exact hbad) (by omega)
                    have e1 : IntKind.i64.wrap ((j : Int) + 1) = (j : Int) + 1 := IntWalk.i64_in _ (by omega)
                    have e2 : (0 : Int) ≤ (j : Int) + 1 := by omega
                    have e3 : (j : Int) + 1 ≤ (s.size : Int) := by omega
                    have e4 : ((j : Int) + 1).toNat = j + 1 := by omega
                    have e5 : (0 : Int) ≤ (i' : Int) := by omega
                    have e6 : (i' : Int) < (ss.length : Int) := by omega
                    have e7 : ¬ 9223372036854775807 < (s.extract 0 (j + 1)).size + t.size := by
                      have : (s.extract 0 (j + 1)).size = j + 1 := by simp; omega
                      omega
                    have e8 : ∀ w, (Op.stringOp .add (s.extract 0 (j + 1)) t).run Try.prog w = .ok (.string (s.extract 0 (j + 1) ++ t)) w := by
                      exact fun w => run_string_add_sum w _ _ (by omega)
                    clear hbad hz
                    go_wp2_with fail
                    go_region_held3 (fun w' => w'.cell? (a.add i') = some (.string t)) (first | go_keep | (rw [x6.cell (by rw [block_add]; exact hab)]; assumption)) (first | (go_at_call 13; refine (BT _).mono ?_; rintro e w6 ⟨rfl, x6⟩))
                    clear e1 e2 e3 e4 e5 e6 e7 e8
                    go_wp2_with fail
                    go_roundw
                    case rel =>
                      have fin : ∃ i2 : Nat, i2 ≤ ss.length ∧ (Value.int .i64 ((i' : Int) + 1)) = .int .i64 i2 ∧ Ext w w6 := ⟨i' + 1, by omega, by go_num, x5.drew.trans x6⟩
                      first | exact fin | ((repeat apply Exists.intro); exact ⟨fin, rfl⟩)
                    case measure => simp [intOf]; omega
                  · have hd : decide ((t.size : Int) ≤ 50) = false := by simp; omega
                    go_wp2_with fail
                    go_quiet (fail)
                    go_wp2_with fail
                    go_roundw
                    case rel => exact ⟨i' + 1, by omega, by go_num, x5.drewN _⟩
                    case measure => simp [intOf]; omega
                · go_wp2_with fail
                  go_ret
                  exact ⟨rfl, x5⟩
              · go_wp2_with fail
                go_ret
                exact ⟨rfl, x5⟩
end Go.Proofs.Ytgpenejalpcjmaa
