/- The law PointSpoils answers true: the walk. -/
import Derived.Test.YtbkhdjbhijmghaaPtH
import Derived.Test.YtbkhdjbhijmghaaPointPartsW
namespace Go.Proofs.Ytbkhdjbhijmghaa
open Go.RowKit

theorem and1023 (v : Int) : 0 ≤ bits BinOp.and IntKind.i64 v 1023 ∧ bits BinOp.and IntKind.i64 v 1023 ≤ 1023 := by
  have h : ((BitVec.ofInt 64 v) &&& (BitVec.ofInt 64 1023)).toNat ≤ 1023 := by
    rw [BitVec.toNat_and]
    exact Nat.le_trans Nat.and_le_right (by decide)
  change 0 ≤ IntKind.i64.wrap (((BitVec.ofInt 64 v) &&& (BitVec.ofInt 64 1023)).toNat : Int) ∧ IntKind.i64.wrap (((BitVec.ofInt 64 v) &&& (BitVec.ofInt 64 1023)).toNat : Int) ≤ 1023
  rw [IntWalk.i64_in _ (by omega)]
  omega
theorem roles_in {k r : Int} (h : r ∈ rolesOf k) : r = 0 ∨ r = 1 ∨ r = 2 ∨ r = 3 ∨ r = 4 := by
  unfold rolesOf at h
  split at h
  · simp at h; omega
  · split at h
    · simp at h; omega
    · split at h
      · simp at h; omega
      · cases h
theorem gpE {k r : Int} {l : List (ByteArray × ByteArray)} {f : Bool} {M S E : Int} {t : Bool} {T : Int} (h1 : goodB E 0 = true) (h2 : decide (0 ≤ E) = true) : goodPt k l r f M S E 0 t T = (decide (r ∈ rolesOf k) && (goodLs l && (boundB r f M S && (true && (timeB t T && freeB l r))))) := by
  unfold goodPt valB
  rw [h1, h2, Bool.true_or]
  rfl
theorem lab1_n (n : Nat) (w2 : World) (hs : w2.heap.size = n) (a b : ByteArray) : LabA (some ⟨n, 0, none⟩) [(a, b)] (w2.alloc (.cells #[.string a, .string b] 30)) := by
  subst hs
  exact lab1_at w2 w2 _ rfl a b

theorem roles_ne {k : Int} (h0 : 0 ≤ k) (h5 : k < 5) : (rolesOf k).length = 1 ∨ (rolesOf k).length = 3 := by
  rcases (show k = 0 ∨ k = 1 ∨ k = 2 ∨ k = 3 ∨ k = 4 from by omega) with rfl | rfl | rfl | rfl | rfl <;> decide

set_option maxHeartbeats 40000000 in
set_option maxRecDepth 100000 in
theorem PointSpoils_main (kind role how v : Int) (w : World) (hk : 0 ≤ kind ∧ kind ≤ 255) (hr : 0 ≤ role ∧ role ≤ 255) (hh : 0 ≤ how ∧ how ≤ 255) :
    Calls Try.prog 4 #[.int .u8 kind, .int .u8 role, .int .u8 how, .int .i32 v] w fun e w' => e = .returned (.bool true) ∧ Ext w w' := by
  go_enter Try.func4, Try.ntmps4
  go_wp2_with fail
  (with_reducible refine (known_any _).mono ?_)
  rintro e w1 ⟨rfl, x1⟩
  go_wp2_with fail
  (with_reducible refine (Roles_any _ (kind % 5) _ rfl).mono ?_)
  rintro e w2 ⟨⟨u, rfl, hU⟩, x2⟩
  have hx := x1.trans x2
  clear x1 x2
  have hL := roles_ne (k := kind % 5) (by omega) (by omega)
  obtain ⟨k, hkk⟩ : ∃ k, kind % 5 = k := ⟨_, rfl⟩
  rw [hkk] at hU hL ⊢
  have hk5 : 0 ≤ k ∧ k < 5 := by omega
  clear hkk hk
  rcases hU with ⟨hnil, _⟩ | ⟨b, rfl, hb, hc⟩
  · rw [hnil] at hL; simp at hL
  obtain ⟨j, hj, hjv⟩ : ∃ j : Nat, j < (rolesOf k).length ∧ role.tmod ((rolesOf k).length : Int) = (j : Int) := by
    refine ⟨(role % ((rolesOf k).length : Int)).toNat, ?_, ?_⟩
    · rcases hL with h | h <;> rw [h] <;> omega
    · rw [Int.tmod_eq_emod_of_nonneg hr.1]
      rcases hL with h | h <;> rw [h] <;> omega
  have g := hc j hj
  rw [Nat.zero_add] at g
  have hmem : (rolesOf k)[j] ∈ rolesOf k := List.getElem_mem hj
  obtain ⟨r, hr'⟩ : ∃ r, (rolesOf k)[j] = r := ⟨_, rfl⟩
  rw [hr'] at g hmem
  have hnn : (rolesOf k).length ≠ 0 := by omega
  have hmem2 := Lib.hid hmem
  clear hmem hr' hc
  generalize (rolesOf k).length = n at *
  obtain ⟨hE0, hE1⟩ := and1023 (wrap64 v)
  obtain ⟨E, hE⟩ : ∃ E, bits BinOp.and IntKind.i64 (wrap64 v) 1023 = E := ⟨_, rfl⟩
  rw [hE] at hE0 hE1
  have hmem := hmem2.out
  have hr5 := roles_in hmem
  have hE2 : goodB E 0 = true := good_mk (by omega) (by omega) (by omega) (.inl rfl)
  have hE3 : decide (0 ≤ E) = true := decide_eq_true hE0
  have iE : I64 E := by unfold I64; omega
  have i0 : I64 0 := by unfold I64; omega
  have hkI : k = 0 ∨ k = 1 ∨ k = 2 ∨ k = 3 ∨ k = 4 := by omega
  clear hmem2 hE0 hE1
  have hN : ∀ x ∈ ([] : List (ByteArray × ByteArray)), x.1.size ≤ 9223372036854775807 ∧ x.2.size ≤ 9223372036854775807 := by intro x hx; cases hx
  rcases hr5 with rfl | rfl | rfl | rfl | rfl
  · have hgp : goodPt k [] 0 false 0 0 E 0 false 0 = true := by
      rcases hkI with rfl | rfl | rfl | rfl | rfl <;> first | (exfalso; revert hmem; decide) | (rw [gpE hE2 hE3]; decide +kernel)
    have GP := fun W => good_at k 0 false 0 0 E 0 false 0 true hgp (by unfold I64; omega) (by unfold I64; omega) iE (by unfold I64; omega) W
    clear hgp
    have g3 : PtIn w2.heap.size (.slice none 0 0) 0 false 0 0 E 0 false 0 (w2.alloc (.cells #[.slice none 0 0, .int .i64 0, .bool false, .int .i64 0, .int .i64 0, .int .i64 E, .int .i64 0, .bool false, .int .i64 0] 26)) := heap_last _ _
    go_wp2_with fail
    try rw [hE]
    (with_reducible refine (GP _).mono ?_)
    rintro e w3 ⟨rfl, x3⟩
    replace g3 := g3.ext x3
    have hx3 := (hx.alloc _).trans x3
    have lp : w2.heap.size < w3.heap.size := (Array.getElem?_eq_some_iff.1 g3).1
    obtain ⟨c0, c1, c2, c3, c4, c5, c6, c7, c8⟩ := g3.cells
    clear GP x3 g g3 hx hb
    by_cases q0 : how % 9 = 0
    · obtain ⟨B0, hq⟩ : ∃ B0, goodPt k [] 1 false 0 0 E 0 false 0 = B0 := ⟨_, rfl⟩
      have GQ : ∀ W, LabA none [] W → Calls Try.prog 10 #[.int .i64 k, .agg #[.slice none 0 0, .int .i64 1, .bool false, .int .i64 0, .int .i64 0, .int .i64 E, .int .i64 0, .bool false, .int .i64 0]] W fun e w' => e = .returned (.bool B0) ∧ Ext W w' := fun W h => by
        have := ptGood_any k none 0 [] 1 false 0 0 E 0 false 0 W (by simp) h hN (by unfold I64; omega) (by unfold I64; omega) iE (by unfold I64; omega)
        rw [hq] at this
        exact this
      have GR : ∀ W, Calls Try.prog 11 #[.int .i64 k, .agg #[.slice none 0 0, .int .i64 1, .bool false, .int .i64 0, .int .i64 0, .int .i64 E, .int .i64 0, .bool false, .int .i64 0]] W fun e w' => e = .returned (.bool B0) ∧ Ext W w' := fun W => by
        have := rPoint_any k none 0 [] 1 false 0 0 E 0 false 0 W (by simp) (LabA.nil _ _) hN (by unfold I64; omega) (by unfold I64; omega) iE (by unfold I64; omega)
        rw [hq] at this
        exact this
      clear hq hmem hkI hE2 hE3 iE i0 hN
      have gQ : PtIn w3.heap.size (.slice none 0 0) 1 false 0 0 E 0 false 0 (w3.alloc (.cells #[.slice none 0 0, .int .i64 1, .bool false, .int .i64 0, .int .i64 0, .int .i64 E, .int .i64 0, .bool false, .int .i64 0] 26)) := heap_last _ _
      go_wp2_with fail
      (with_reducible refine (GR _).mono ?_)
      rintro e w4 ⟨rfl, x4⟩
      replace gQ := gQ.ext x4
      obtain ⟨y0, y1, y2, y3, y4, y5, y6, y7, y8⟩ := gQ.cells
      clear c0 c1 c2 c3 c4 c5 c6 c7 c8
      go_wp2_with fail
      (with_reducible refine (GQ _ (LabA.nil _ _)).mono ?_)
      rintro e w5 ⟨rfl, x5⟩
      cases B0
      all_goals
        go_wp2_with fail
        go_ret
        exact ⟨rfl, ((hx3.alloc _).trans x4).trans x5⟩
    · by_cases q1 : how % 9 = 1
      · have hq : goodPt k [((⟨#[108, 101]⟩ : ByteArray), (⟨#[]⟩ : ByteArray))] 0 false 0 0 E 0 false 0 = true := by
          rcases hkI with rfl | rfl | rfl | rfl | rfl <;> first | (exfalso; revert hmem; decide) | (rw [gpE hE2 hE3]; decide +kernel)
        have GQ : ∀ W, LabA (some ⟨w3.heap.size + 1, 0, none⟩) [((⟨#[108, 101]⟩ : ByteArray), (⟨#[]⟩ : ByteArray))] W → Calls Try.prog 10 #[.int .i64 k, .agg #[.slice (some ⟨w3.heap.size + 1, 0, none⟩) 1 1, .int .i64 0, .bool false, .int .i64 0, .int .i64 0, .int .i64 E, .int .i64 0, .bool false, .int .i64 0]] W fun e w' => e = .returned (.bool true) ∧ Ext W w' := fun W h => by
          have := ptGood_any k (some ⟨w3.heap.size + 1, 0, none⟩) 1 [((⟨#[108, 101]⟩ : ByteArray), (⟨#[]⟩ : ByteArray))] 0 false 0 0 E 0 false 0 W (by simp) h (by intro x hx; simp at hx; subst hx; decide) (by unfold I64; omega) (by unfold I64; omega) iE (by unfold I64; omega)
          rw [hq] at this
          exact this
        clear hq hmem hkI hE2 hE3 iE i0 hN
        go_wp2_with fail
        (with_reducible refine (GQ _ ?hl010).mono ?_)
        case hl010 => exact lab1_n _ _ (by simp) _ _
        rintro e w5 ⟨rfl, x5⟩
        go_wp2_with fail
        go_ret
        exact ⟨rfl, (((hx3.alloc _).alloc _).trans x5)⟩
      · by_cases q2 : how % 9 = 2
        · have hq : goodPt k [((⟨#[113, 117, 97, 110, 116, 105, 108, 101]⟩ : ByteArray), (⟨#[]⟩ : ByteArray))] 0 false 0 0 E 0 false 0 = true := by
            rcases hkI with rfl | rfl | rfl | rfl | rfl <;> first | (exfalso; revert hmem; decide) | (rw [gpE hE2 hE3]; decide +kernel)
          have GQ : ∀ W, LabA (some ⟨w3.heap.size + 1, 0, none⟩) [((⟨#[113, 117, 97, 110, 116, 105, 108, 101]⟩ : ByteArray), (⟨#[]⟩ : ByteArray))] W → Calls Try.prog 10 #[.int .i64 k, .agg #[.slice (some ⟨w3.heap.size + 1, 0, none⟩) 1 1, .int .i64 0, .bool false, .int .i64 0, .int .i64 0, .int .i64 E, .int .i64 0, .bool false, .int .i64 0]] W fun e w' => e = .returned (.bool true) ∧ Ext W w' := fun W h => by
            have := ptGood_any k (some ⟨w3.heap.size + 1, 0, none⟩) 1 [((⟨#[113, 117, 97, 110, 116, 105, 108, 101]⟩ : ByteArray), (⟨#[]⟩ : ByteArray))] 0 false 0 0 E 0 false 0 W (by simp) h (by intro x hx; simp at hx; subst hx; decide) (by unfold I64; omega) (by unfold I64; omega) iE (by unfold I64; omega)
            rw [hq] at this
            exact this
          clear hq hmem hkI hE2 hE3 iE i0 hN
          go_wp2_with fail
          (with_reducible refine (GQ _ ?hl020).mono ?_)
          case hl020 => exact lab1_n _ _ (by simp) _ _
          rintro e w5 ⟨rfl, x5⟩
          go_wp2_with fail
          go_ret
          exact ⟨rfl, (((hx3.alloc _).alloc _).trans x5)⟩
        · by_cases q3 : how % 9 = 3
          · have hq : goodPt k [] 0 false 2 0 E 0 false 0 = false := by
              rcases hkI with rfl | rfl | rfl | rfl | rfl <;> first | (exfalso; revert hmem; decide) | (rw [gpE hE2 hE3]; decide +kernel)
            have GQ : ∀ W, LabA none [] W → Calls Try.prog 10 #[.int .i64 k, .agg #[.slice none 0 0, .int .i64 0, .bool false, .int .i64 2, .int .i64 0, .int .i64 E, .int .i64 0, .bool false, .int .i64 0]] W fun e w' => e = .returned (.bool false) ∧ Ext W w' := fun W h => by
              have := ptGood_any k none 0 [] 0 false 2 0 E 0 false 0 W (by simp) h hN (by unfold I64; omega) (by unfold I64; omega) iE (by unfold I64; omega)
              rw [hq] at this
              exact this
            clear hq hmem hkI hE2 hE3 iE i0 hN
            go_wp2_with fail
            (with_reducible refine (GQ _ ?hl030).mono ?_)
            case hl030 => exact LabA.nil _ _
            rintro e w5 ⟨rfl, x5⟩
            go_wp2_with fail
            go_ret
            exact ⟨rfl, ((hx3.alloc _).trans x5)⟩
          · by_cases q4 : how % 9 = 4
            · have hq : goodPt k [] 0 true 0 0 E 0 false 0 = false := by
                rcases hkI with rfl | rfl | rfl | rfl | rfl <;> first | (exfalso; revert hmem; decide) | (rw [gpE hE2 hE3]; decide +kernel)
              have GQ : ∀ W, LabA none [] W → Calls Try.prog 10 #[.int .i64 k, .agg #[.slice none 0 0, .int .i64 0, .bool true, .int .i64 0, .int .i64 0, .int .i64 E, .int .i64 0, .bool false, .int .i64 0]] W fun e w' => e = .returned (.bool false) ∧ Ext W w' := fun W h => by
                have := ptGood_any k none 0 [] 0 true 0 0 E 0 false 0 W (by simp) h hN (by unfold I64; omega) (by unfold I64; omega) iE (by unfold I64; omega)
                rw [hq] at this
                exact this
              clear hq hmem hkI hE2 hE3 iE i0 hN
              go_wp2_with fail
              (with_reducible refine (GQ _ ?hl040).mono ?_)
              case hl040 => exact LabA.nil _ _
              rintro e w5 ⟨rfl, x5⟩
              go_wp2_with fail
              go_ret
              exact ⟨rfl, ((hx3.alloc _).trans x5)⟩
            · by_cases q5 : how % 9 = 5
              · have hq : goodPt k [] 0 false 0 0 E 0 false 1 = false := by
                  rcases hkI with rfl | rfl | rfl | rfl | rfl <;> first | (exfalso; revert hmem; decide) | (rw [gpE hE2 hE3]; decide +kernel)
                have GQ : ∀ W, LabA none [] W → Calls Try.prog 10 #[.int .i64 k, .agg #[.slice none 0 0, .int .i64 0, .bool false, .int .i64 0, .int .i64 0, .int .i64 E, .int .i64 0, .bool false, .int .i64 1]] W fun e w' => e = .returned (.bool false) ∧ Ext W w' := fun W h => by
                  have := ptGood_any k none 0 [] 0 false 0 0 E 0 false 1 W (by simp) h hN (by unfold I64; omega) (by unfold I64; omega) iE (by unfold I64; omega)
                  rw [hq] at this
                  exact this
                clear hq hmem hkI hE2 hE3 iE i0 hN
                go_wp2_with fail
                (with_reducible refine (GQ _ ?hl050).mono ?_)
                case hl050 => exact LabA.nil _ _
                rintro e w5 ⟨rfl, x5⟩
                go_wp2_with fail
                go_ret
                exact ⟨rfl, ((hx3.alloc _).trans x5)⟩
              · by_cases q6 : how % 9 = 6
                · have hq : goodPt k [] 0 false 0 0 E 0 true 1125899906842625 = false := by
                    rcases hkI with rfl | rfl | rfl | rfl | rfl <;> first | (exfalso; revert hmem; decide) | (rw [gpE hE2 hE3]; decide +kernel)
                  have GQ : ∀ W, LabA none [] W → Calls Try.prog 10 #[.int .i64 k, .agg #[.slice none 0 0, .int .i64 0, .bool false, .int .i64 0, .int .i64 0, .int .i64 E, .int .i64 0, .bool true, .int .i64 1125899906842625]] W fun e w' => e = .returned (.bool false) ∧ Ext W w' := fun W h => by
                    have := ptGood_any k none 0 [] 0 false 0 0 E 0 true 1125899906842625 W (by simp) h hN (by unfold I64; omega) (by unfold I64; omega) iE (by unfold I64; omega)
                    rw [hq] at this
                    exact this
                  clear hq hmem hkI hE2 hE3 iE i0 hN
                  go_wp2_with fail
                  (with_reducible refine (GQ _ ?hl060).mono ?_)
                  case hl060 => exact LabA.nil _ _
                  rintro e w5 ⟨rfl, x5⟩
                  go_wp2_with fail
                  go_ret
                  exact ⟨rfl, ((hx3.alloc _).trans x5)⟩
                · by_cases q7 : how % 9 = 7
                  · by_cases hk2 : k = 2
                    · subst hk2
                      have hq : goodPt 2 [] 0 false 0 0 (-1) 0 false 0 = false := by
                        (decide +kernel)
                      have GQ : ∀ W, LabA none [] W → Calls Try.prog 10 #[.int .i64 2, .agg #[.slice none 0 0, .int .i64 0, .bool false, .int .i64 0, .int .i64 0, .int .i64 (-1), .int .i64 0, .bool false, .int .i64 0]] W fun e w' => e = .returned (.bool false) ∧ Ext W w' := fun W h => by
                        have := ptGood_any 2 none 0 [] 0 false 0 0 (-1) 0 false 0 W (by simp) h hN (by unfold I64; omega) (by unfold I64; omega) (by unfold I64; omega) (by unfold I64; omega)
                        rw [hq] at this
                        exact this
                      clear hq hmem hkI hE2 hE3 iE i0 hN
                      go_wp2_with fail
                      (with_reducible refine (GQ _ ?hl071).mono ?_)
                      case hl071 => exact LabA.nil _ _
                      rintro e w5 ⟨rfl, x5⟩
                      go_wp2_with fail
                      go_ret
                      exact ⟨rfl, ((hx3.alloc _).trans x5)⟩
                    · have hk3 : (k == 2) = false := by simpa using hk2
                      have hk4 : (k != 2) = true := by simpa using hk2
                      have hq : goodPt k [] 0 false 0 0 (-1) 0 false 0 = true := by
                        rcases hkI with rfl | rfl | rfl | rfl | rfl <;> first | (exfalso; revert hmem; decide) | (exfalso; omega) | (decide +kernel)
                      have GQ : ∀ W, LabA none [] W → Calls Try.prog 10 #[.int .i64 k, .agg #[.slice none 0 0, .int .i64 0, .bool false, .int .i64 0, .int .i64 0, .int .i64 (-1), .int .i64 0, .bool false, .int .i64 0]] W fun e w' => e = .returned (.bool true) ∧ Ext W w' := fun W h => by
                        have := ptGood_any k none 0 [] 0 false 0 0 (-1) 0 false 0 W (by simp) h hN (by unfold I64; omega) (by unfold I64; omega) (by unfold I64; omega) (by unfold I64; omega)
                        rw [hq] at this
                        exact this
                      clear hq hmem hkI hE2 hE3 iE i0 hN
                      go_wp2_with fail
                      (with_reducible refine (GQ _ ?hl070).mono ?_)
                      case hl070 => exact LabA.nil _ _
                      rintro e w5 ⟨rfl, x5⟩
                      go_wp2_with fail
                      go_ret
                      exact ⟨rfl, ((hx3.alloc _).trans x5)⟩
                  · have hq : goodPt k [] 0 false 0 0 10 1 false 0 = false := by
                      rcases hkI with rfl | rfl | rfl | rfl | rfl <;> first | (exfalso; revert hmem; decide) | (decide +kernel)
                    have GQ : ∀ W, LabA none [] W → Calls Try.prog 10 #[.int .i64 k, .agg #[.slice none 0 0, .int .i64 0, .bool false, .int .i64 0, .int .i64 0, .int .i64 10, .int .i64 1, .bool false, .int .i64 0]] W fun e w' => e = .returned (.bool false) ∧ Ext W w' := fun W h => by
                      have := ptGood_any k none 0 [] 0 false 0 0 10 1 false 0 W (by simp) h hN (by unfold I64; omega) (by unfold I64; omega) (by unfold I64; omega) (by unfold I64; omega)
                      rw [hq] at this
                      exact this
                    clear hq hmem hkI hE2 hE3 iE i0 hN
                    go_wp2_with fail
                    (with_reducible refine (GQ _ ?hl080).mono ?_)
                    case hl080 => exact LabA.nil _ _
                    rintro e w5 ⟨rfl, x5⟩
                    go_wp2_with fail
                    go_ret
                    exact ⟨rfl, ((hx3.alloc _).trans x5)⟩
  · have hgp : goodPt k [] 1 false 0 0 E 0 false 0 = true := by
      rcases hkI with rfl | rfl | rfl | rfl | rfl <;> first | (exfalso; revert hmem; decide) | (rw [gpE hE2 hE3]; decide +kernel)
    have GP := fun W => good_at k 1 false 0 0 E 0 false 0 true hgp (by unfold I64; omega) (by unfold I64; omega) iE (by unfold I64; omega) W
    clear hgp
    have g3 : PtIn w2.heap.size (.slice none 0 0) 1 false 0 0 E 0 false 0 (w2.alloc (.cells #[.slice none 0 0, .int .i64 1, .bool false, .int .i64 0, .int .i64 0, .int .i64 E, .int .i64 0, .bool false, .int .i64 0] 26)) := heap_last _ _
    go_wp2_with fail
    try rw [hE]
    (with_reducible refine (GP _).mono ?_)
    rintro e w3 ⟨rfl, x3⟩
    replace g3 := g3.ext x3
    have hx3 := (hx.alloc _).trans x3
    have lp : w2.heap.size < w3.heap.size := (Array.getElem?_eq_some_iff.1 g3).1
    obtain ⟨c0, c1, c2, c3, c4, c5, c6, c7, c8⟩ := g3.cells
    clear GP x3 g g3 hx hb
    by_cases q0 : how % 9 = 0
    · obtain ⟨B0, hq⟩ : ∃ B0, goodPt k [] 2 false 0 0 E 0 false 0 = B0 := ⟨_, rfl⟩
      have GQ : ∀ W, LabA none [] W → Calls Try.prog 10 #[.int .i64 k, .agg #[.slice none 0 0, .int .i64 2, .bool false, .int .i64 0, .int .i64 0, .int .i64 E, .int .i64 0, .bool false, .int .i64 0]] W fun e w' => e = .returned (.bool B0) ∧ Ext W w' := fun W h => by
        have := ptGood_any k none 0 [] 2 false 0 0 E 0 false 0 W (by simp) h hN (by unfold I64; omega) (by unfold I64; omega) iE (by unfold I64; omega)
        rw [hq] at this
        exact this
      have GR : ∀ W, Calls Try.prog 11 #[.int .i64 k, .agg #[.slice none 0 0, .int .i64 2, .bool false, .int .i64 0, .int .i64 0, .int .i64 E, .int .i64 0, .bool false, .int .i64 0]] W fun e w' => e = .returned (.bool B0) ∧ Ext W w' := fun W => by
        have := rPoint_any k none 0 [] 2 false 0 0 E 0 false 0 W (by simp) (LabA.nil _ _) hN (by unfold I64; omega) (by unfold I64; omega) iE (by unfold I64; omega)
        rw [hq] at this
        exact this
      clear hq hmem hkI hE2 hE3 iE i0 hN
      have gQ : PtIn w3.heap.size (.slice none 0 0) 2 false 0 0 E 0 false 0 (w3.alloc (.cells #[.slice none 0 0, .int .i64 2, .bool false, .int .i64 0, .int .i64 0, .int .i64 E, .int .i64 0, .bool false, .int .i64 0] 26)) := heap_last _ _
      go_wp2_with fail
      (with_reducible refine (GR _).mono ?_)
      rintro e w4 ⟨rfl, x4⟩
      replace gQ := gQ.ext x4
      obtain ⟨y0, y1, y2, y3, y4, y5, y6, y7, y8⟩ := gQ.cells
      clear c0 c1 c2 c3 c4 c5 c6 c7 c8
      go_wp2_with fail
      (with_reducible refine (GQ _ (LabA.nil _ _)).mono ?_)
      rintro e w5 ⟨rfl, x5⟩
      cases B0
      all_goals
        go_wp2_with fail
        go_ret
        exact ⟨rfl, ((hx3.alloc _).trans x4).trans x5⟩
    · by_cases q1 : how % 9 = 1
      · have hq : goodPt k [((⟨#[108, 101]⟩ : ByteArray), (⟨#[]⟩ : ByteArray))] 1 false 0 0 E 0 false 0 = false := by
          rcases hkI with rfl | rfl | rfl | rfl | rfl <;> first | (exfalso; revert hmem; decide) | (rw [gpE hE2 hE3]; decide +kernel)
        have GQ : ∀ W, LabA (some ⟨w3.heap.size + 1, 0, none⟩) [((⟨#[108, 101]⟩ : ByteArray), (⟨#[]⟩ : ByteArray))] W → Calls Try.prog 10 #[.int .i64 k, .agg #[.slice (some ⟨w3.heap.size + 1, 0, none⟩) 1 1, .int .i64 1, .bool false, .int .i64 0, .int .i64 0, .int .i64 E, .int .i64 0, .bool false, .int .i64 0]] W fun e w' => e = .returned (.bool false) ∧ Ext W w' := fun W h => by
          have := ptGood_any k (some ⟨w3.heap.size + 1, 0, none⟩) 1 [((⟨#[108, 101]⟩ : ByteArray), (⟨#[]⟩ : ByteArray))] 1 false 0 0 E 0 false 0 W (by simp) h (by intro x hx; simp at hx; subst hx; decide) (by unfold I64; omega) (by unfold I64; omega) iE (by unfold I64; omega)
          rw [hq] at this
          exact this
        clear hq hmem hkI hE2 hE3 iE i0 hN
        go_wp2_with fail
        (with_reducible refine (GQ _ ?hl110).mono ?_)
        case hl110 => exact lab1_n _ _ (by simp) _ _
        rintro e w5 ⟨rfl, x5⟩
        go_wp2_with fail
        go_ret
        exact ⟨rfl, (((hx3.alloc _).alloc _).trans x5)⟩
      · by_cases q2 : how % 9 = 2
        · have hq : goodPt k [((⟨#[113, 117, 97, 110, 116, 105, 108, 101]⟩ : ByteArray), (⟨#[]⟩ : ByteArray))] 1 false 0 0 E 0 false 0 = true := by
            rcases hkI with rfl | rfl | rfl | rfl | rfl <;> first | (exfalso; revert hmem; decide) | (rw [gpE hE2 hE3]; decide +kernel)
          have GQ : ∀ W, LabA (some ⟨w3.heap.size + 1, 0, none⟩) [((⟨#[113, 117, 97, 110, 116, 105, 108, 101]⟩ : ByteArray), (⟨#[]⟩ : ByteArray))] W → Calls Try.prog 10 #[.int .i64 k, .agg #[.slice (some ⟨w3.heap.size + 1, 0, none⟩) 1 1, .int .i64 1, .bool false, .int .i64 0, .int .i64 0, .int .i64 E, .int .i64 0, .bool false, .int .i64 0]] W fun e w' => e = .returned (.bool true) ∧ Ext W w' := fun W h => by
            have := ptGood_any k (some ⟨w3.heap.size + 1, 0, none⟩) 1 [((⟨#[113, 117, 97, 110, 116, 105, 108, 101]⟩ : ByteArray), (⟨#[]⟩ : ByteArray))] 1 false 0 0 E 0 false 0 W (by simp) h (by intro x hx; simp at hx; subst hx; decide) (by unfold I64; omega) (by unfold I64; omega) iE (by unfold I64; omega)
            rw [hq] at this
            exact this
          clear hq hmem hkI hE2 hE3 iE i0 hN
          go_wp2_with fail
          (with_reducible refine (GQ _ ?hl120).mono ?_)
          case hl120 => exact lab1_n _ _ (by simp) _ _
          rintro e w5 ⟨rfl, x5⟩
          go_wp2_with fail
          go_ret
          exact ⟨rfl, (((hx3.alloc _).alloc _).trans x5)⟩
        · by_cases q3 : how % 9 = 3
          · have hq : goodPt k [] 1 false 2 0 E 0 false 0 = true := by
              rcases hkI with rfl | rfl | rfl | rfl | rfl <;> first | (exfalso; revert hmem; decide) | (rw [gpE hE2 hE3]; decide +kernel)
            have GQ : ∀ W, LabA none [] W → Calls Try.prog 10 #[.int .i64 k, .agg #[.slice none 0 0, .int .i64 1, .bool false, .int .i64 2, .int .i64 0, .int .i64 E, .int .i64 0, .bool false, .int .i64 0]] W fun e w' => e = .returned (.bool true) ∧ Ext W w' := fun W h => by
              have := ptGood_any k none 0 [] 1 false 2 0 E 0 false 0 W (by simp) h hN (by unfold I64; omega) (by unfold I64; omega) iE (by unfold I64; omega)
              rw [hq] at this
              exact this
            clear hq hmem hkI hE2 hE3 iE i0 hN
            go_wp2_with fail
            (with_reducible refine (GQ _ ?hl130).mono ?_)
            case hl130 => exact LabA.nil _ _
            rintro e w5 ⟨rfl, x5⟩
            go_wp2_with fail
            go_ret
            exact ⟨rfl, ((hx3.alloc _).trans x5)⟩
          · by_cases q4 : how % 9 = 4
            · have hq : goodPt k [] 1 true 0 0 E 0 false 0 = true := by
                rcases hkI with rfl | rfl | rfl | rfl | rfl <;> first | (exfalso; revert hmem; decide) | (rw [gpE hE2 hE3]; decide +kernel)
              have GQ : ∀ W, LabA none [] W → Calls Try.prog 10 #[.int .i64 k, .agg #[.slice none 0 0, .int .i64 1, .bool true, .int .i64 0, .int .i64 0, .int .i64 E, .int .i64 0, .bool false, .int .i64 0]] W fun e w' => e = .returned (.bool true) ∧ Ext W w' := fun W h => by
                have := ptGood_any k none 0 [] 1 true 0 0 E 0 false 0 W (by simp) h hN (by unfold I64; omega) (by unfold I64; omega) iE (by unfold I64; omega)
                rw [hq] at this
                exact this
              clear hq hmem hkI hE2 hE3 iE i0 hN
              go_wp2_with fail
              (with_reducible refine (GQ _ ?hl140).mono ?_)
              case hl140 => exact LabA.nil _ _
              rintro e w5 ⟨rfl, x5⟩
              go_wp2_with fail
              go_ret
              exact ⟨rfl, ((hx3.alloc _).trans x5)⟩
            · by_cases q5 : how % 9 = 5
              · have hq : goodPt k [] 1 false 0 0 E 0 false 1 = false := by
                  rcases hkI with rfl | rfl | rfl | rfl | rfl <;> first | (exfalso; revert hmem; decide) | (rw [gpE hE2 hE3]; decide +kernel)
                have GQ : ∀ W, LabA none [] W → Calls Try.prog 10 #[.int .i64 k, .agg #[.slice none 0 0, .int .i64 1, .bool false, .int .i64 0, .int .i64 0, .int .i64 E, .int .i64 0, .bool false, .int .i64 1]] W fun e w' => e = .returned (.bool false) ∧ Ext W w' := fun W h => by
                  have := ptGood_any k none 0 [] 1 false 0 0 E 0 false 1 W (by simp) h hN (by unfold I64; omega) (by unfold I64; omega) iE (by unfold I64; omega)
                  rw [hq] at this
                  exact this
                clear hq hmem hkI hE2 hE3 iE i0 hN
                go_wp2_with fail
                (with_reducible refine (GQ _ ?hl150).mono ?_)
                case hl150 => exact LabA.nil _ _
                rintro e w5 ⟨rfl, x5⟩
                go_wp2_with fail
                go_ret
                exact ⟨rfl, ((hx3.alloc _).trans x5)⟩
              · by_cases q6 : how % 9 = 6
                · have hq : goodPt k [] 1 false 0 0 E 0 true 1125899906842625 = false := by
                    rcases hkI with rfl | rfl | rfl | rfl | rfl <;> first | (exfalso; revert hmem; decide) | (rw [gpE hE2 hE3]; decide +kernel)
                  have GQ : ∀ W, LabA none [] W → Calls Try.prog 10 #[.int .i64 k, .agg #[.slice none 0 0, .int .i64 1, .bool false, .int .i64 0, .int .i64 0, .int .i64 E, .int .i64 0, .bool true, .int .i64 1125899906842625]] W fun e w' => e = .returned (.bool false) ∧ Ext W w' := fun W h => by
                    have := ptGood_any k none 0 [] 1 false 0 0 E 0 true 1125899906842625 W (by simp) h hN (by unfold I64; omega) (by unfold I64; omega) iE (by unfold I64; omega)
                    rw [hq] at this
                    exact this
                  clear hq hmem hkI hE2 hE3 iE i0 hN
                  go_wp2_with fail
                  (with_reducible refine (GQ _ ?hl160).mono ?_)
                  case hl160 => exact LabA.nil _ _
                  rintro e w5 ⟨rfl, x5⟩
                  go_wp2_with fail
                  go_ret
                  exact ⟨rfl, ((hx3.alloc _).trans x5)⟩
                · by_cases q7 : how % 9 = 7
                  · have hk4 : (k != 2) = true := by
                      rcases hkI with rfl | rfl | rfl | rfl | rfl <;> first | (exfalso; revert hmem; decide) | decide
                    have hk3 : (k == 2) = false := by
                      rcases hkI with rfl | rfl | rfl | rfl | rfl <;> first | (exfalso; revert hmem; decide) | decide
                    have hq : goodPt k [] 1 false 0 0 (-1) 0 false 0 = false := by
                      rcases hkI with rfl | rfl | rfl | rfl | rfl <;> first | (exfalso; revert hmem; decide) | (decide +kernel)
                    have GQ : ∀ W, LabA none [] W → Calls Try.prog 10 #[.int .i64 k, .agg #[.slice none 0 0, .int .i64 1, .bool false, .int .i64 0, .int .i64 0, .int .i64 (-1), .int .i64 0, .bool false, .int .i64 0]] W fun e w' => e = .returned (.bool false) ∧ Ext W w' := fun W h => by
                      have := ptGood_any k none 0 [] 1 false 0 0 (-1) 0 false 0 W (by simp) h hN (by unfold I64; omega) (by unfold I64; omega) (by unfold I64; omega) (by unfold I64; omega)
                      rw [hq] at this
                      exact this
                    clear hq hmem hkI hE2 hE3 iE i0 hN
                    go_wp2_with fail
                    (with_reducible refine (GQ _ ?hl170).mono ?_)
                    case hl170 => exact LabA.nil _ _
                    rintro e w5 ⟨rfl, x5⟩
                    go_wp2_with fail
                    go_ret
                    exact ⟨rfl, ((hx3.alloc _).trans x5)⟩
                  · have hq : goodPt k [] 1 false 0 0 10 1 false 0 = false := by
                      rcases hkI with rfl | rfl | rfl | rfl | rfl <;> first | (exfalso; revert hmem; decide) | (decide +kernel)
                    have GQ : ∀ W, LabA none [] W → Calls Try.prog 10 #[.int .i64 k, .agg #[.slice none 0 0, .int .i64 1, .bool false, .int .i64 0, .int .i64 0, .int .i64 10, .int .i64 1, .bool false, .int .i64 0]] W fun e w' => e = .returned (.bool false) ∧ Ext W w' := fun W h => by
                      have := ptGood_any k none 0 [] 1 false 0 0 10 1 false 0 W (by simp) h hN (by unfold I64; omega) (by unfold I64; omega) (by unfold I64; omega) (by unfold I64; omega)
                      rw [hq] at this
                      exact this
                    clear hq hmem hkI hE2 hE3 iE i0 hN
                    go_wp2_with fail
                    (with_reducible refine (GQ _ ?hl180).mono ?_)
                    case hl180 => exact LabA.nil _ _
                    rintro e w5 ⟨rfl, x5⟩
                    go_wp2_with fail
                    go_ret
                    exact ⟨rfl, ((hx3.alloc _).trans x5)⟩
  · have hgp : goodPt k [] 2 false 5 1 E 0 false 0 = true := by
      rcases hkI with rfl | rfl | rfl | rfl | rfl <;> first | (exfalso; revert hmem; decide) | (rw [gpE hE2 hE3]; decide +kernel)
    have GP := fun W => good_at k 2 false 5 1 E 0 false 0 true hgp (by unfold I64; omega) (by unfold I64; omega) iE (by unfold I64; omega) W
    clear hgp
    have g3 : PtIn w2.heap.size (.slice none 0 0) 2 false 5 1 E 0 false 0 (w2.alloc (.cells #[.slice none 0 0, .int .i64 2, .bool false, .int .i64 5, .int .i64 1, .int .i64 E, .int .i64 0, .bool false, .int .i64 0] 26)) := heap_last _ _
    go_wp2_with fail
    try rw [hE]
    (with_reducible refine (GP _).mono ?_)
    rintro e w3 ⟨rfl, x3⟩
    replace g3 := g3.ext x3
    have hx3 := (hx.alloc _).trans x3
    have lp : w2.heap.size < w3.heap.size := (Array.getElem?_eq_some_iff.1 g3).1
    obtain ⟨c0, c1, c2, c3, c4, c5, c6, c7, c8⟩ := g3.cells
    clear GP x3 g g3 hx hb
    by_cases q0 : how % 9 = 0
    · obtain ⟨B0, hq⟩ : ∃ B0, goodPt k [] 3 false 5 1 E 0 false 0 = B0 := ⟨_, rfl⟩
      have GQ : ∀ W, LabA none [] W → Calls Try.prog 10 #[.int .i64 k, .agg #[.slice none 0 0, .int .i64 3, .bool false, .int .i64 5, .int .i64 1, .int .i64 E, .int .i64 0, .bool false, .int .i64 0]] W fun e w' => e = .returned (.bool B0) ∧ Ext W w' := fun W h => by
        have := ptGood_any k none 0 [] 3 false 5 1 E 0 false 0 W (by simp) h hN (by unfold I64; omega) (by unfold I64; omega) iE (by unfold I64; omega)
        rw [hq] at this
        exact this
      have GR : ∀ W, Calls Try.prog 11 #[.int .i64 k, .agg #[.slice none 0 0, .int .i64 3, .bool false, .int .i64 5, .int .i64 1, .int .i64 E, .int .i64 0, .bool false, .int .i64 0]] W fun e w' => e = .returned (.bool B0) ∧ Ext W w' := fun W => by
        have := rPoint_any k none 0 [] 3 false 5 1 E 0 false 0 W (by simp) (LabA.nil _ _) hN (by unfold I64; omega) (by unfold I64; omega) iE (by unfold I64; omega)
        rw [hq] at this
        exact this
      clear hq hmem hkI hE2 hE3 iE i0 hN
      have gQ : PtIn w3.heap.size (.slice none 0 0) 3 false 5 1 E 0 false 0 (w3.alloc (.cells #[.slice none 0 0, .int .i64 3, .bool false, .int .i64 5, .int .i64 1, .int .i64 E, .int .i64 0, .bool false, .int .i64 0] 26)) := heap_last _ _
      go_wp2_with fail
      (with_reducible refine (GR _).mono ?_)
      rintro e w4 ⟨rfl, x4⟩
      replace gQ := gQ.ext x4
      obtain ⟨y0, y1, y2, y3, y4, y5, y6, y7, y8⟩ := gQ.cells
      clear c0 c1 c2 c3 c4 c5 c6 c7 c8
      go_wp2_with fail
      (with_reducible refine (GQ _ (LabA.nil _ _)).mono ?_)
      rintro e w5 ⟨rfl, x5⟩
      cases B0
      all_goals
        go_wp2_with fail
        go_ret
        exact ⟨rfl, ((hx3.alloc _).trans x4).trans x5⟩
    · by_cases q1 : how % 9 = 1
      · have hq : goodPt k [((⟨#[108, 101]⟩ : ByteArray), (⟨#[]⟩ : ByteArray))] 2 false 5 1 E 0 false 0 = true := by
          rcases hkI with rfl | rfl | rfl | rfl | rfl <;> first | (exfalso; revert hmem; decide) | (rw [gpE hE2 hE3]; decide +kernel)
        have GQ : ∀ W, LabA (some ⟨w3.heap.size + 1, 0, none⟩) [((⟨#[108, 101]⟩ : ByteArray), (⟨#[]⟩ : ByteArray))] W → Calls Try.prog 10 #[.int .i64 k, .agg #[.slice (some ⟨w3.heap.size + 1, 0, none⟩) 1 1, .int .i64 2, .bool false, .int .i64 5, .int .i64 1, .int .i64 E, .int .i64 0, .bool false, .int .i64 0]] W fun e w' => e = .returned (.bool true) ∧ Ext W w' := fun W h => by
          have := ptGood_any k (some ⟨w3.heap.size + 1, 0, none⟩) 1 [((⟨#[108, 101]⟩ : ByteArray), (⟨#[]⟩ : ByteArray))] 2 false 5 1 E 0 false 0 W (by simp) h (by intro x hx; simp at hx; subst hx; decide) (by unfold I64; omega) (by unfold I64; omega) iE (by unfold I64; omega)
          rw [hq] at this
          exact this
        clear hq hmem hkI hE2 hE3 iE i0 hN
        go_wp2_with fail
        (with_reducible refine (GQ _ ?hl210).mono ?_)
        case hl210 => exact lab1_n _ _ (by simp) _ _
        rintro e w5 ⟨rfl, x5⟩
        go_wp2_with fail
        go_ret
        exact ⟨rfl, (((hx3.alloc _).alloc _).trans x5)⟩
      · by_cases q2 : how % 9 = 2
        · have hq : goodPt k [((⟨#[113, 117, 97, 110, 116, 105, 108, 101]⟩ : ByteArray), (⟨#[]⟩ : ByteArray))] 2 false 5 1 E 0 false 0 = false := by
            rcases hkI with rfl | rfl | rfl | rfl | rfl <;> first | (exfalso; revert hmem; decide) | (rw [gpE hE2 hE3]; decide +kernel)
          have GQ : ∀ W, LabA (some ⟨w3.heap.size + 1, 0, none⟩) [((⟨#[113, 117, 97, 110, 116, 105, 108, 101]⟩ : ByteArray), (⟨#[]⟩ : ByteArray))] W → Calls Try.prog 10 #[.int .i64 k, .agg #[.slice (some ⟨w3.heap.size + 1, 0, none⟩) 1 1, .int .i64 2, .bool false, .int .i64 5, .int .i64 1, .int .i64 E, .int .i64 0, .bool false, .int .i64 0]] W fun e w' => e = .returned (.bool false) ∧ Ext W w' := fun W h => by
            have := ptGood_any k (some ⟨w3.heap.size + 1, 0, none⟩) 1 [((⟨#[113, 117, 97, 110, 116, 105, 108, 101]⟩ : ByteArray), (⟨#[]⟩ : ByteArray))] 2 false 5 1 E 0 false 0 W (by simp) h (by intro x hx; simp at hx; subst hx; decide) (by unfold I64; omega) (by unfold I64; omega) iE (by unfold I64; omega)
            rw [hq] at this
            exact this
          clear hq hmem hkI hE2 hE3 iE i0 hN
          go_wp2_with fail
          (with_reducible refine (GQ _ ?hl220).mono ?_)
          case hl220 => exact lab1_n _ _ (by simp) _ _
          rintro e w5 ⟨rfl, x5⟩
          go_wp2_with fail
          go_ret
          exact ⟨rfl, (((hx3.alloc _).alloc _).trans x5)⟩
        · by_cases q3 : how % 9 = 3
          · have hq : goodPt k [] 2 false 2 0 E 0 false 0 = false := by
              rcases hkI with rfl | rfl | rfl | rfl | rfl <;> first | (exfalso; revert hmem; decide) | (rw [gpE hE2 hE3]; decide +kernel)
            have GQ : ∀ W, LabA none [] W → Calls Try.prog 10 #[.int .i64 k, .agg #[.slice none 0 0, .int .i64 2, .bool false, .int .i64 2, .int .i64 0, .int .i64 E, .int .i64 0, .bool false, .int .i64 0]] W fun e w' => e = .returned (.bool false) ∧ Ext W w' := fun W h => by
              have := ptGood_any k none 0 [] 2 false 2 0 E 0 false 0 W (by simp) h hN (by unfold I64; omega) (by unfold I64; omega) iE (by unfold I64; omega)
              rw [hq] at this
              exact this
            clear hq hmem hkI hE2 hE3 iE i0 hN
            go_wp2_with fail
            (with_reducible refine (GQ _ ?hl230).mono ?_)
            case hl230 => exact LabA.nil _ _
            rintro e w5 ⟨rfl, x5⟩
            go_wp2_with fail
            go_ret
            exact ⟨rfl, ((hx3.alloc _).trans x5)⟩
          · by_cases q4 : how % 9 = 4
            · have hq : goodPt k [] 2 true 5 1 E 0 false 0 = false := by
                rcases hkI with rfl | rfl | rfl | rfl | rfl <;> first | (exfalso; revert hmem; decide) | (rw [gpE hE2 hE3]; decide +kernel)
              have GQ : ∀ W, LabA none [] W → Calls Try.prog 10 #[.int .i64 k, .agg #[.slice none 0 0, .int .i64 2, .bool true, .int .i64 5, .int .i64 1, .int .i64 E, .int .i64 0, .bool false, .int .i64 0]] W fun e w' => e = .returned (.bool false) ∧ Ext W w' := fun W h => by
                have := ptGood_any k none 0 [] 2 true 5 1 E 0 false 0 W (by simp) h hN (by unfold I64; omega) (by unfold I64; omega) iE (by unfold I64; omega)
                rw [hq] at this
                exact this
              clear hq hmem hkI hE2 hE3 iE i0 hN
              go_wp2_with fail
              (with_reducible refine (GQ _ ?hl240).mono ?_)
              case hl240 => exact LabA.nil _ _
              rintro e w5 ⟨rfl, x5⟩
              go_wp2_with fail
              go_ret
              exact ⟨rfl, ((hx3.alloc _).trans x5)⟩
            · by_cases q5 : how % 9 = 5
              · have hq : goodPt k [] 2 false 5 1 E 0 false 1 = false := by
                  rcases hkI with rfl | rfl | rfl | rfl | rfl <;> first | (exfalso; revert hmem; decide) | (rw [gpE hE2 hE3]; decide +kernel)
                have GQ : ∀ W, LabA none [] W → Calls Try.prog 10 #[.int .i64 k, .agg #[.slice none 0 0, .int .i64 2, .bool false, .int .i64 5, .int .i64 1, .int .i64 E, .int .i64 0, .bool false, .int .i64 1]] W fun e w' => e = .returned (.bool false) ∧ Ext W w' := fun W h => by
                  have := ptGood_any k none 0 [] 2 false 5 1 E 0 false 1 W (by simp) h hN (by unfold I64; omega) (by unfold I64; omega) iE (by unfold I64; omega)
                  rw [hq] at this
                  exact this
                clear hq hmem hkI hE2 hE3 iE i0 hN
                go_wp2_with fail
                (with_reducible refine (GQ _ ?hl250).mono ?_)
                case hl250 => exact LabA.nil _ _
                rintro e w5 ⟨rfl, x5⟩
                go_wp2_with fail
                go_ret
                exact ⟨rfl, ((hx3.alloc _).trans x5)⟩
              · by_cases q6 : how % 9 = 6
                · have hq : goodPt k [] 2 false 5 1 E 0 true 1125899906842625 = false := by
                    rcases hkI with rfl | rfl | rfl | rfl | rfl <;> first | (exfalso; revert hmem; decide) | (rw [gpE hE2 hE3]; decide +kernel)
                  have GQ : ∀ W, LabA none [] W → Calls Try.prog 10 #[.int .i64 k, .agg #[.slice none 0 0, .int .i64 2, .bool false, .int .i64 5, .int .i64 1, .int .i64 E, .int .i64 0, .bool true, .int .i64 1125899906842625]] W fun e w' => e = .returned (.bool false) ∧ Ext W w' := fun W h => by
                    have := ptGood_any k none 0 [] 2 false 5 1 E 0 true 1125899906842625 W (by simp) h hN (by unfold I64; omega) (by unfold I64; omega) iE (by unfold I64; omega)
                    rw [hq] at this
                    exact this
                  clear hq hmem hkI hE2 hE3 iE i0 hN
                  go_wp2_with fail
                  (with_reducible refine (GQ _ ?hl260).mono ?_)
                  case hl260 => exact LabA.nil _ _
                  rintro e w5 ⟨rfl, x5⟩
                  go_wp2_with fail
                  go_ret
                  exact ⟨rfl, ((hx3.alloc _).trans x5)⟩
                · by_cases q7 : how % 9 = 7
                  · have hk4 : (k != 2) = true := by
                      rcases hkI with rfl | rfl | rfl | rfl | rfl <;> first | (exfalso; revert hmem; decide) | decide
                    have hk3 : (k == 2) = false := by
                      rcases hkI with rfl | rfl | rfl | rfl | rfl <;> first | (exfalso; revert hmem; decide) | decide
                    have hq : goodPt k [] 2 false 5 1 (-1) 0 false 0 = true := by
                      rcases hkI with rfl | rfl | rfl | rfl | rfl <;> first | (exfalso; revert hmem; decide) | (decide +kernel)
                    have GQ : ∀ W, LabA none [] W → Calls Try.prog 10 #[.int .i64 k, .agg #[.slice none 0 0, .int .i64 2, .bool false, .int .i64 5, .int .i64 1, .int .i64 (-1), .int .i64 0, .bool false, .int .i64 0]] W fun e w' => e = .returned (.bool true) ∧ Ext W w' := fun W h => by
                      have := ptGood_any k none 0 [] 2 false 5 1 (-1) 0 false 0 W (by simp) h hN (by unfold I64; omega) (by unfold I64; omega) (by unfold I64; omega) (by unfold I64; omega)
                      rw [hq] at this
                      exact this
                    clear hq hmem hkI hE2 hE3 iE i0 hN
                    go_wp2_with fail
                    (with_reducible refine (GQ _ ?hl270).mono ?_)
                    case hl270 => exact LabA.nil _ _
                    rintro e w5 ⟨rfl, x5⟩
                    go_wp2_with fail
                    go_ret
                    exact ⟨rfl, ((hx3.alloc _).trans x5)⟩
                  · have hq : goodPt k [] 2 false 5 1 10 1 false 0 = false := by
                      rcases hkI with rfl | rfl | rfl | rfl | rfl <;> first | (exfalso; revert hmem; decide) | (decide +kernel)
                    have GQ : ∀ W, LabA none [] W → Calls Try.prog 10 #[.int .i64 k, .agg #[.slice none 0 0, .int .i64 2, .bool false, .int .i64 5, .int .i64 1, .int .i64 10, .int .i64 1, .bool false, .int .i64 0]] W fun e w' => e = .returned (.bool false) ∧ Ext W w' := fun W h => by
                      have := ptGood_any k none 0 [] 2 false 5 1 10 1 false 0 W (by simp) h hN (by unfold I64; omega) (by unfold I64; omega) (by unfold I64; omega) (by unfold I64; omega)
                      rw [hq] at this
                      exact this
                    clear hq hmem hkI hE2 hE3 iE i0 hN
                    go_wp2_with fail
                    (with_reducible refine (GQ _ ?hl280).mono ?_)
                    case hl280 => exact LabA.nil _ _
                    rintro e w5 ⟨rfl, x5⟩
                    go_wp2_with fail
                    go_ret
                    exact ⟨rfl, ((hx3.alloc _).trans x5)⟩
  · have hgp : goodPt k [] 3 false 0 0 E 0 false 0 = true := by
      rcases hkI with rfl | rfl | rfl | rfl | rfl <;> first | (exfalso; revert hmem; decide) | (rw [gpE hE2 hE3]; decide +kernel)
    have GP := fun W => good_at k 3 false 0 0 E 0 false 0 true hgp (by unfold I64; omega) (by unfold I64; omega) iE (by unfold I64; omega) W
    clear hgp
    have g3 : PtIn w2.heap.size (.slice none 0 0) 3 false 0 0 E 0 false 0 (w2.alloc (.cells #[.slice none 0 0, .int .i64 3, .bool false, .int .i64 0, .int .i64 0, .int .i64 E, .int .i64 0, .bool false, .int .i64 0] 26)) := heap_last _ _
    go_wp2_with fail
    try rw [hE]
    (with_reducible refine (GP _).mono ?_)
    rintro e w3 ⟨rfl, x3⟩
    replace g3 := g3.ext x3
    have hx3 := (hx.alloc _).trans x3
    have lp : w2.heap.size < w3.heap.size := (Array.getElem?_eq_some_iff.1 g3).1
    obtain ⟨c0, c1, c2, c3, c4, c5, c6, c7, c8⟩ := g3.cells
    clear GP x3 g g3 hx hb
    by_cases q0 : how % 9 = 0
    · obtain ⟨B0, hq⟩ : ∃ B0, goodPt k [] 4 false 0 0 E 0 false 0 = B0 := ⟨_, rfl⟩
      have GQ : ∀ W, LabA none [] W → Calls Try.prog 10 #[.int .i64 k, .agg #[.slice none 0 0, .int .i64 4, .bool false, .int .i64 0, .int .i64 0, .int .i64 E, .int .i64 0, .bool false, .int .i64 0]] W fun e w' => e = .returned (.bool B0) ∧ Ext W w' := fun W h => by
        have := ptGood_any k none 0 [] 4 false 0 0 E 0 false 0 W (by simp) h hN (by unfold I64; omega) (by unfold I64; omega) iE (by unfold I64; omega)
        rw [hq] at this
        exact this
      have GR : ∀ W, Calls Try.prog 11 #[.int .i64 k, .agg #[.slice none 0 0, .int .i64 4, .bool false, .int .i64 0, .int .i64 0, .int .i64 E, .int .i64 0, .bool false, .int .i64 0]] W fun e w' => e = .returned (.bool B0) ∧ Ext W w' := fun W => by
        have := rPoint_any k none 0 [] 4 false 0 0 E 0 false 0 W (by simp) (LabA.nil _ _) hN (by unfold I64; omega) (by unfold I64; omega) iE (by unfold I64; omega)
        rw [hq] at this
        exact this
      clear hq hmem hkI hE2 hE3 iE i0 hN
      have gQ : PtIn w3.heap.size (.slice none 0 0) 4 false 0 0 E 0 false 0 (w3.alloc (.cells #[.slice none 0 0, .int .i64 4, .bool false, .int .i64 0, .int .i64 0, .int .i64 E, .int .i64 0, .bool false, .int .i64 0] 26)) := heap_last _ _
      go_wp2_with fail
      (with_reducible refine (GR _).mono ?_)
      rintro e w4 ⟨rfl, x4⟩
      replace gQ := gQ.ext x4
      obtain ⟨y0, y1, y2, y3, y4, y5, y6, y7, y8⟩ := gQ.cells
      clear c0 c1 c2 c3 c4 c5 c6 c7 c8
      go_wp2_with fail
      (with_reducible refine (GQ _ (LabA.nil _ _)).mono ?_)
      rintro e w5 ⟨rfl, x5⟩
      cases B0
      all_goals
        go_wp2_with fail
        go_ret
        exact ⟨rfl, ((hx3.alloc _).trans x4).trans x5⟩
    · by_cases q1 : how % 9 = 1
      · have hq : goodPt k [((⟨#[108, 101]⟩ : ByteArray), (⟨#[]⟩ : ByteArray))] 3 false 0 0 E 0 false 0 = true := by
          rcases hkI with rfl | rfl | rfl | rfl | rfl <;> first | (exfalso; revert hmem; decide) | (rw [gpE hE2 hE3]; decide +kernel)
        have GQ : ∀ W, LabA (some ⟨w3.heap.size + 1, 0, none⟩) [((⟨#[108, 101]⟩ : ByteArray), (⟨#[]⟩ : ByteArray))] W → Calls Try.prog 10 #[.int .i64 k, .agg #[.slice (some ⟨w3.heap.size + 1, 0, none⟩) 1 1, .int .i64 3, .bool false, .int .i64 0, .int .i64 0, .int .i64 E, .int .i64 0, .bool false, .int .i64 0]] W fun e w' => e = .returned (.bool true) ∧ Ext W w' := fun W h => by
          have := ptGood_any k (some ⟨w3.heap.size + 1, 0, none⟩) 1 [((⟨#[108, 101]⟩ : ByteArray), (⟨#[]⟩ : ByteArray))] 3 false 0 0 E 0 false 0 W (by simp) h (by intro x hx; simp at hx; subst hx; decide) (by unfold I64; omega) (by unfold I64; omega) iE (by unfold I64; omega)
          rw [hq] at this
          exact this
        clear hq hmem hkI hE2 hE3 iE i0 hN
        go_wp2_with fail
        (with_reducible refine (GQ _ ?hl310).mono ?_)
        case hl310 => exact lab1_n _ _ (by simp) _ _
        rintro e w5 ⟨rfl, x5⟩
        go_wp2_with fail
        go_ret
        exact ⟨rfl, (((hx3.alloc _).alloc _).trans x5)⟩
      · by_cases q2 : how % 9 = 2
        · have hq : goodPt k [((⟨#[113, 117, 97, 110, 116, 105, 108, 101]⟩ : ByteArray), (⟨#[]⟩ : ByteArray))] 3 false 0 0 E 0 false 0 = true := by
            rcases hkI with rfl | rfl | rfl | rfl | rfl <;> first | (exfalso; revert hmem; decide) | (rw [gpE hE2 hE3]; decide +kernel)
          have GQ : ∀ W, LabA (some ⟨w3.heap.size + 1, 0, none⟩) [((⟨#[113, 117, 97, 110, 116, 105, 108, 101]⟩ : ByteArray), (⟨#[]⟩ : ByteArray))] W → Calls Try.prog 10 #[.int .i64 k, .agg #[.slice (some ⟨w3.heap.size + 1, 0, none⟩) 1 1, .int .i64 3, .bool false, .int .i64 0, .int .i64 0, .int .i64 E, .int .i64 0, .bool false, .int .i64 0]] W fun e w' => e = .returned (.bool true) ∧ Ext W w' := fun W h => by
            have := ptGood_any k (some ⟨w3.heap.size + 1, 0, none⟩) 1 [((⟨#[113, 117, 97, 110, 116, 105, 108, 101]⟩ : ByteArray), (⟨#[]⟩ : ByteArray))] 3 false 0 0 E 0 false 0 W (by simp) h (by intro x hx; simp at hx; subst hx; decide) (by unfold I64; omega) (by unfold I64; omega) iE (by unfold I64; omega)
            rw [hq] at this
            exact this
          clear hq hmem hkI hE2 hE3 iE i0 hN
          go_wp2_with fail
          (with_reducible refine (GQ _ ?hl320).mono ?_)
          case hl320 => exact lab1_n _ _ (by simp) _ _
          rintro e w5 ⟨rfl, x5⟩
          go_wp2_with fail
          go_ret
          exact ⟨rfl, (((hx3.alloc _).alloc _).trans x5)⟩
        · by_cases q3 : how % 9 = 3
          · have hq : goodPt k [] 3 false 2 0 E 0 false 0 = false := by
              rcases hkI with rfl | rfl | rfl | rfl | rfl <;> first | (exfalso; revert hmem; decide) | (rw [gpE hE2 hE3]; decide +kernel)
            have GQ : ∀ W, LabA none [] W → Calls Try.prog 10 #[.int .i64 k, .agg #[.slice none 0 0, .int .i64 3, .bool false, .int .i64 2, .int .i64 0, .int .i64 E, .int .i64 0, .bool false, .int .i64 0]] W fun e w' => e = .returned (.bool false) ∧ Ext W w' := fun W h => by
              have := ptGood_any k none 0 [] 3 false 2 0 E 0 false 0 W (by simp) h hN (by unfold I64; omega) (by unfold I64; omega) iE (by unfold I64; omega)
              rw [hq] at this
              exact this
            clear hq hmem hkI hE2 hE3 iE i0 hN
            go_wp2_with fail
            (with_reducible refine (GQ _ ?hl330).mono ?_)
            case hl330 => exact LabA.nil _ _
            rintro e w5 ⟨rfl, x5⟩
            go_wp2_with fail
            go_ret
            exact ⟨rfl, ((hx3.alloc _).trans x5)⟩
          · by_cases q4 : how % 9 = 4
            · have hq : goodPt k [] 3 true 0 0 E 0 false 0 = false := by
                rcases hkI with rfl | rfl | rfl | rfl | rfl <;> first | (exfalso; revert hmem; decide) | (rw [gpE hE2 hE3]; decide +kernel)
              have GQ : ∀ W, LabA none [] W → Calls Try.prog 10 #[.int .i64 k, .agg #[.slice none 0 0, .int .i64 3, .bool true, .int .i64 0, .int .i64 0, .int .i64 E, .int .i64 0, .bool false, .int .i64 0]] W fun e w' => e = .returned (.bool false) ∧ Ext W w' := fun W h => by
                have := ptGood_any k none 0 [] 3 true 0 0 E 0 false 0 W (by simp) h hN (by unfold I64; omega) (by unfold I64; omega) iE (by unfold I64; omega)
                rw [hq] at this
                exact this
              clear hq hmem hkI hE2 hE3 iE i0 hN
              go_wp2_with fail
              (with_reducible refine (GQ _ ?hl340).mono ?_)
              case hl340 => exact LabA.nil _ _
              rintro e w5 ⟨rfl, x5⟩
              go_wp2_with fail
              go_ret
              exact ⟨rfl, ((hx3.alloc _).trans x5)⟩
            · by_cases q5 : how % 9 = 5
              · have hq : goodPt k [] 3 false 0 0 E 0 false 1 = false := by
                  rcases hkI with rfl | rfl | rfl | rfl | rfl <;> first | (exfalso; revert hmem; decide) | (rw [gpE hE2 hE3]; decide +kernel)
                have GQ : ∀ W, LabA none [] W → Calls Try.prog 10 #[.int .i64 k, .agg #[.slice none 0 0, .int .i64 3, .bool false, .int .i64 0, .int .i64 0, .int .i64 E, .int .i64 0, .bool false, .int .i64 1]] W fun e w' => e = .returned (.bool false) ∧ Ext W w' := fun W h => by
                  have := ptGood_any k none 0 [] 3 false 0 0 E 0 false 1 W (by simp) h hN (by unfold I64; omega) (by unfold I64; omega) iE (by unfold I64; omega)
                  rw [hq] at this
                  exact this
                clear hq hmem hkI hE2 hE3 iE i0 hN
                go_wp2_with fail
                (with_reducible refine (GQ _ ?hl350).mono ?_)
                case hl350 => exact LabA.nil _ _
                rintro e w5 ⟨rfl, x5⟩
                go_wp2_with fail
                go_ret
                exact ⟨rfl, ((hx3.alloc _).trans x5)⟩
              · by_cases q6 : how % 9 = 6
                · have hq : goodPt k [] 3 false 0 0 E 0 true 1125899906842625 = false := by
                    rcases hkI with rfl | rfl | rfl | rfl | rfl <;> first | (exfalso; revert hmem; decide) | (rw [gpE hE2 hE3]; decide +kernel)
                  have GQ : ∀ W, LabA none [] W → Calls Try.prog 10 #[.int .i64 k, .agg #[.slice none 0 0, .int .i64 3, .bool false, .int .i64 0, .int .i64 0, .int .i64 E, .int .i64 0, .bool true, .int .i64 1125899906842625]] W fun e w' => e = .returned (.bool false) ∧ Ext W w' := fun W h => by
                    have := ptGood_any k none 0 [] 3 false 0 0 E 0 true 1125899906842625 W (by simp) h hN (by unfold I64; omega) (by unfold I64; omega) iE (by unfold I64; omega)
                    rw [hq] at this
                    exact this
                  clear hq hmem hkI hE2 hE3 iE i0 hN
                  go_wp2_with fail
                  (with_reducible refine (GQ _ ?hl360).mono ?_)
                  case hl360 => exact LabA.nil _ _
                  rintro e w5 ⟨rfl, x5⟩
                  go_wp2_with fail
                  go_ret
                  exact ⟨rfl, ((hx3.alloc _).trans x5)⟩
                · by_cases q7 : how % 9 = 7
                  · have hk4 : (k != 2) = true := by
                      rcases hkI with rfl | rfl | rfl | rfl | rfl <;> first | (exfalso; revert hmem; decide) | decide
                    have hk3 : (k == 2) = false := by
                      rcases hkI with rfl | rfl | rfl | rfl | rfl <;> first | (exfalso; revert hmem; decide) | decide
                    have hq : goodPt k [] 3 false 0 0 (-1) 0 false 0 = false := by
                      rcases hkI with rfl | rfl | rfl | rfl | rfl <;> first | (exfalso; revert hmem; decide) | (decide +kernel)
                    have GQ : ∀ W, LabA none [] W → Calls Try.prog 10 #[.int .i64 k, .agg #[.slice none 0 0, .int .i64 3, .bool false, .int .i64 0, .int .i64 0, .int .i64 (-1), .int .i64 0, .bool false, .int .i64 0]] W fun e w' => e = .returned (.bool false) ∧ Ext W w' := fun W h => by
                      have := ptGood_any k none 0 [] 3 false 0 0 (-1) 0 false 0 W (by simp) h hN (by unfold I64; omega) (by unfold I64; omega) (by unfold I64; omega) (by unfold I64; omega)
                      rw [hq] at this
                      exact this
                    clear hq hmem hkI hE2 hE3 iE i0 hN
                    go_wp2_with fail
                    (with_reducible refine (GQ _ ?hl370).mono ?_)
                    case hl370 => exact LabA.nil _ _
                    rintro e w5 ⟨rfl, x5⟩
                    go_wp2_with fail
                    go_ret
                    exact ⟨rfl, ((hx3.alloc _).trans x5)⟩
                  · have hq : goodPt k [] 3 false 0 0 10 1 false 0 = false := by
                      rcases hkI with rfl | rfl | rfl | rfl | rfl <;> first | (exfalso; revert hmem; decide) | (decide +kernel)
                    have GQ : ∀ W, LabA none [] W → Calls Try.prog 10 #[.int .i64 k, .agg #[.slice none 0 0, .int .i64 3, .bool false, .int .i64 0, .int .i64 0, .int .i64 10, .int .i64 1, .bool false, .int .i64 0]] W fun e w' => e = .returned (.bool false) ∧ Ext W w' := fun W h => by
                      have := ptGood_any k none 0 [] 3 false 0 0 10 1 false 0 W (by simp) h hN (by unfold I64; omega) (by unfold I64; omega) (by unfold I64; omega) (by unfold I64; omega)
                      rw [hq] at this
                      exact this
                    clear hq hmem hkI hE2 hE3 iE i0 hN
                    go_wp2_with fail
                    (with_reducible refine (GQ _ ?hl380).mono ?_)
                    case hl380 => exact LabA.nil _ _
                    rintro e w5 ⟨rfl, x5⟩
                    go_wp2_with fail
                    go_ret
                    exact ⟨rfl, ((hx3.alloc _).trans x5)⟩
  · have hgp : goodPt k [] 4 false 0 0 E 0 false 0 = true := by
      rcases hkI with rfl | rfl | rfl | rfl | rfl <;> first | (exfalso; revert hmem; decide) | (rw [gpE hE2 hE3]; decide +kernel)
    have GP := fun W => good_at k 4 false 0 0 E 0 false 0 true hgp (by unfold I64; omega) (by unfold I64; omega) iE (by unfold I64; omega) W
    clear hgp
    have g3 : PtIn w2.heap.size (.slice none 0 0) 4 false 0 0 E 0 false 0 (w2.alloc (.cells #[.slice none 0 0, .int .i64 4, .bool false, .int .i64 0, .int .i64 0, .int .i64 E, .int .i64 0, .bool false, .int .i64 0] 26)) := heap_last _ _
    go_wp2_with fail
    try rw [hE]
    (with_reducible refine (GP _).mono ?_)
    rintro e w3 ⟨rfl, x3⟩
    replace g3 := g3.ext x3
    have hx3 := (hx.alloc _).trans x3
    have lp : w2.heap.size < w3.heap.size := (Array.getElem?_eq_some_iff.1 g3).1
    obtain ⟨c0, c1, c2, c3, c4, c5, c6, c7, c8⟩ := g3.cells
    clear GP x3 g g3 hx hb
    by_cases q0 : how % 9 = 0
    · obtain ⟨B0, hq⟩ : ∃ B0, goodPt k [] 0 false 0 0 E 0 false 0 = B0 := ⟨_, rfl⟩
      have GQ : ∀ W, LabA none [] W → Calls Try.prog 10 #[.int .i64 k, .agg #[.slice none 0 0, .int .i64 0, .bool false, .int .i64 0, .int .i64 0, .int .i64 E, .int .i64 0, .bool false, .int .i64 0]] W fun e w' => e = .returned (.bool B0) ∧ Ext W w' := fun W h => by
        have := ptGood_any k none 0 [] 0 false 0 0 E 0 false 0 W (by simp) h hN (by unfold I64; omega) (by unfold I64; omega) iE (by unfold I64; omega)
        rw [hq] at this
        exact this
      have GR : ∀ W, Calls Try.prog 11 #[.int .i64 k, .agg #[.slice none 0 0, .int .i64 0, .bool false, .int .i64 0, .int .i64 0, .int .i64 E, .int .i64 0, .bool false, .int .i64 0]] W fun e w' => e = .returned (.bool B0) ∧ Ext W w' := fun W => by
        have := rPoint_any k none 0 [] 0 false 0 0 E 0 false 0 W (by simp) (LabA.nil _ _) hN (by unfold I64; omega) (by unfold I64; omega) iE (by unfold I64; omega)
        rw [hq] at this
        exact this
      clear hq hmem hkI hE2 hE3 iE i0 hN
      have gQ : PtIn w3.heap.size (.slice none 0 0) 0 false 0 0 E 0 false 0 (w3.alloc (.cells #[.slice none 0 0, .int .i64 0, .bool false, .int .i64 0, .int .i64 0, .int .i64 E, .int .i64 0, .bool false, .int .i64 0] 26)) := heap_last _ _
      go_wp2_with fail
      (with_reducible refine (GR _).mono ?_)
      rintro e w4 ⟨rfl, x4⟩
      replace gQ := gQ.ext x4
      obtain ⟨y0, y1, y2, y3, y4, y5, y6, y7, y8⟩ := gQ.cells
      clear c0 c1 c2 c3 c4 c5 c6 c7 c8
      go_wp2_with fail
      (with_reducible refine (GQ _ (LabA.nil _ _)).mono ?_)
      rintro e w5 ⟨rfl, x5⟩
      cases B0
      all_goals
        go_wp2_with fail
        go_ret
        exact ⟨rfl, ((hx3.alloc _).trans x4).trans x5⟩
    · by_cases q1 : how % 9 = 1
      · have hq : goodPt k [((⟨#[108, 101]⟩ : ByteArray), (⟨#[]⟩ : ByteArray))] 4 false 0 0 E 0 false 0 = true := by
          rcases hkI with rfl | rfl | rfl | rfl | rfl <;> first | (exfalso; revert hmem; decide) | (rw [gpE hE2 hE3]; decide +kernel)
        have GQ : ∀ W, LabA (some ⟨w3.heap.size + 1, 0, none⟩) [((⟨#[108, 101]⟩ : ByteArray), (⟨#[]⟩ : ByteArray))] W → Calls Try.prog 10 #[.int .i64 k, .agg #[.slice (some ⟨w3.heap.size + 1, 0, none⟩) 1 1, .int .i64 4, .bool false, .int .i64 0, .int .i64 0, .int .i64 E, .int .i64 0, .bool false, .int .i64 0]] W fun e w' => e = .returned (.bool true) ∧ Ext W w' := fun W h => by
          have := ptGood_any k (some ⟨w3.heap.size + 1, 0, none⟩) 1 [((⟨#[108, 101]⟩ : ByteArray), (⟨#[]⟩ : ByteArray))] 4 false 0 0 E 0 false 0 W (by simp) h (by intro x hx; simp at hx; subst hx; decide) (by unfold I64; omega) (by unfold I64; omega) iE (by unfold I64; omega)
          rw [hq] at this
          exact this
        clear hq hmem hkI hE2 hE3 iE i0 hN
        go_wp2_with fail
        (with_reducible refine (GQ _ ?hl410).mono ?_)
        case hl410 => exact lab1_n _ _ (by simp) _ _
        rintro e w5 ⟨rfl, x5⟩
        go_wp2_with fail
        go_ret
        exact ⟨rfl, (((hx3.alloc _).alloc _).trans x5)⟩
      · by_cases q2 : how % 9 = 2
        · have hq : goodPt k [((⟨#[113, 117, 97, 110, 116, 105, 108, 101]⟩ : ByteArray), (⟨#[]⟩ : ByteArray))] 4 false 0 0 E 0 false 0 = true := by
            rcases hkI with rfl | rfl | rfl | rfl | rfl <;> first | (exfalso; revert hmem; decide) | (rw [gpE hE2 hE3]; decide +kernel)
          have GQ : ∀ W, LabA (some ⟨w3.heap.size + 1, 0, none⟩) [((⟨#[113, 117, 97, 110, 116, 105, 108, 101]⟩ : ByteArray), (⟨#[]⟩ : ByteArray))] W → Calls Try.prog 10 #[.int .i64 k, .agg #[.slice (some ⟨w3.heap.size + 1, 0, none⟩) 1 1, .int .i64 4, .bool false, .int .i64 0, .int .i64 0, .int .i64 E, .int .i64 0, .bool false, .int .i64 0]] W fun e w' => e = .returned (.bool true) ∧ Ext W w' := fun W h => by
            have := ptGood_any k (some ⟨w3.heap.size + 1, 0, none⟩) 1 [((⟨#[113, 117, 97, 110, 116, 105, 108, 101]⟩ : ByteArray), (⟨#[]⟩ : ByteArray))] 4 false 0 0 E 0 false 0 W (by simp) h (by intro x hx; simp at hx; subst hx; decide) (by unfold I64; omega) (by unfold I64; omega) iE (by unfold I64; omega)
            rw [hq] at this
            exact this
          clear hq hmem hkI hE2 hE3 iE i0 hN
          go_wp2_with fail
          (with_reducible refine (GQ _ ?hl420).mono ?_)
          case hl420 => exact lab1_n _ _ (by simp) _ _
          rintro e w5 ⟨rfl, x5⟩
          go_wp2_with fail
          go_ret
          exact ⟨rfl, (((hx3.alloc _).alloc _).trans x5)⟩
        · by_cases q3 : how % 9 = 3
          · have hq : goodPt k [] 4 false 2 0 E 0 false 0 = false := by
              rcases hkI with rfl | rfl | rfl | rfl | rfl <;> first | (exfalso; revert hmem; decide) | (rw [gpE hE2 hE3]; decide +kernel)
            have GQ : ∀ W, LabA none [] W → Calls Try.prog 10 #[.int .i64 k, .agg #[.slice none 0 0, .int .i64 4, .bool false, .int .i64 2, .int .i64 0, .int .i64 E, .int .i64 0, .bool false, .int .i64 0]] W fun e w' => e = .returned (.bool false) ∧ Ext W w' := fun W h => by
              have := ptGood_any k none 0 [] 4 false 2 0 E 0 false 0 W (by simp) h hN (by unfold I64; omega) (by unfold I64; omega) iE (by unfold I64; omega)
              rw [hq] at this
              exact this
            clear hq hmem hkI hE2 hE3 iE i0 hN
            go_wp2_with fail
            (with_reducible refine (GQ _ ?hl430).mono ?_)
            case hl430 => exact LabA.nil _ _
            rintro e w5 ⟨rfl, x5⟩
            go_wp2_with fail
            go_ret
            exact ⟨rfl, ((hx3.alloc _).trans x5)⟩
          · by_cases q4 : how % 9 = 4
            · have hq : goodPt k [] 4 true 0 0 E 0 false 0 = false := by
                rcases hkI with rfl | rfl | rfl | rfl | rfl <;> first | (exfalso; revert hmem; decide) | (rw [gpE hE2 hE3]; decide +kernel)
              have GQ : ∀ W, LabA none [] W → Calls Try.prog 10 #[.int .i64 k, .agg #[.slice none 0 0, .int .i64 4, .bool true, .int .i64 0, .int .i64 0, .int .i64 E, .int .i64 0, .bool false, .int .i64 0]] W fun e w' => e = .returned (.bool false) ∧ Ext W w' := fun W h => by
                have := ptGood_any k none 0 [] 4 true 0 0 E 0 false 0 W (by simp) h hN (by unfold I64; omega) (by unfold I64; omega) iE (by unfold I64; omega)
                rw [hq] at this
                exact this
              clear hq hmem hkI hE2 hE3 iE i0 hN
              go_wp2_with fail
              (with_reducible refine (GQ _ ?hl440).mono ?_)
              case hl440 => exact LabA.nil _ _
              rintro e w5 ⟨rfl, x5⟩
              go_wp2_with fail
              go_ret
              exact ⟨rfl, ((hx3.alloc _).trans x5)⟩
            · by_cases q5 : how % 9 = 5
              · have hq : goodPt k [] 4 false 0 0 E 0 false 1 = false := by
                  rcases hkI with rfl | rfl | rfl | rfl | rfl <;> first | (exfalso; revert hmem; decide) | (rw [gpE hE2 hE3]; decide +kernel)
                have GQ : ∀ W, LabA none [] W → Calls Try.prog 10 #[.int .i64 k, .agg #[.slice none 0 0, .int .i64 4, .bool false, .int .i64 0, .int .i64 0, .int .i64 E, .int .i64 0, .bool false, .int .i64 1]] W fun e w' => e = .returned (.bool false) ∧ Ext W w' := fun W h => by
                  have := ptGood_any k none 0 [] 4 false 0 0 E 0 false 1 W (by simp) h hN (by unfold I64; omega) (by unfold I64; omega) iE (by unfold I64; omega)
                  rw [hq] at this
                  exact this
                clear hq hmem hkI hE2 hE3 iE i0 hN
                go_wp2_with fail
                (with_reducible refine (GQ _ ?hl450).mono ?_)
                case hl450 => exact LabA.nil _ _
                rintro e w5 ⟨rfl, x5⟩
                go_wp2_with fail
                go_ret
                exact ⟨rfl, ((hx3.alloc _).trans x5)⟩
              · by_cases q6 : how % 9 = 6
                · have hq : goodPt k [] 4 false 0 0 E 0 true 1125899906842625 = false := by
                    rcases hkI with rfl | rfl | rfl | rfl | rfl <;> first | (exfalso; revert hmem; decide) | (rw [gpE hE2 hE3]; decide +kernel)
                  have GQ : ∀ W, LabA none [] W → Calls Try.prog 10 #[.int .i64 k, .agg #[.slice none 0 0, .int .i64 4, .bool false, .int .i64 0, .int .i64 0, .int .i64 E, .int .i64 0, .bool true, .int .i64 1125899906842625]] W fun e w' => e = .returned (.bool false) ∧ Ext W w' := fun W h => by
                    have := ptGood_any k none 0 [] 4 false 0 0 E 0 true 1125899906842625 W (by simp) h hN (by unfold I64; omega) (by unfold I64; omega) iE (by unfold I64; omega)
                    rw [hq] at this
                    exact this
                  clear hq hmem hkI hE2 hE3 iE i0 hN
                  go_wp2_with fail
                  (with_reducible refine (GQ _ ?hl460).mono ?_)
                  case hl460 => exact LabA.nil _ _
                  rintro e w5 ⟨rfl, x5⟩
                  go_wp2_with fail
                  go_ret
                  exact ⟨rfl, ((hx3.alloc _).trans x5)⟩
                · by_cases q7 : how % 9 = 7
                  · have hk4 : (k != 2) = true := by
                      rcases hkI with rfl | rfl | rfl | rfl | rfl <;> first | (exfalso; revert hmem; decide) | decide
                    have hk3 : (k == 2) = false := by
                      rcases hkI with rfl | rfl | rfl | rfl | rfl <;> first | (exfalso; revert hmem; decide) | decide
                    have hq : goodPt k [] 4 false 0 0 (-1) 0 false 0 = true := by
                      rcases hkI with rfl | rfl | rfl | rfl | rfl <;> first | (exfalso; revert hmem; decide) | (decide +kernel)
                    have GQ : ∀ W, LabA none [] W → Calls Try.prog 10 #[.int .i64 k, .agg #[.slice none 0 0, .int .i64 4, .bool false, .int .i64 0, .int .i64 0, .int .i64 (-1), .int .i64 0, .bool false, .int .i64 0]] W fun e w' => e = .returned (.bool true) ∧ Ext W w' := fun W h => by
                      have := ptGood_any k none 0 [] 4 false 0 0 (-1) 0 false 0 W (by simp) h hN (by unfold I64; omega) (by unfold I64; omega) (by unfold I64; omega) (by unfold I64; omega)
                      rw [hq] at this
                      exact this
                    clear hq hmem hkI hE2 hE3 iE i0 hN
                    go_wp2_with fail
                    (with_reducible refine (GQ _ ?hl470).mono ?_)
                    case hl470 => exact LabA.nil _ _
                    rintro e w5 ⟨rfl, x5⟩
                    go_wp2_with fail
                    go_ret
                    exact ⟨rfl, ((hx3.alloc _).trans x5)⟩
                  · have hq : goodPt k [] 4 false 0 0 10 1 false 0 = false := by
                      rcases hkI with rfl | rfl | rfl | rfl | rfl <;> first | (exfalso; revert hmem; decide) | (decide +kernel)
                    have GQ : ∀ W, LabA none [] W → Calls Try.prog 10 #[.int .i64 k, .agg #[.slice none 0 0, .int .i64 4, .bool false, .int .i64 0, .int .i64 0, .int .i64 10, .int .i64 1, .bool false, .int .i64 0]] W fun e w' => e = .returned (.bool false) ∧ Ext W w' := fun W h => by
                      have := ptGood_any k none 0 [] 4 false 0 0 10 1 false 0 W (by simp) h hN (by unfold I64; omega) (by unfold I64; omega) (by unfold I64; omega) (by unfold I64; omega)
                      rw [hq] at this
                      exact this
                    clear hq hmem hkI hE2 hE3 iE i0 hN
                    go_wp2_with fail
                    (with_reducible refine (GQ _ ?hl480).mono ?_)
                    case hl480 => exact LabA.nil _ _
                    rintro e w5 ⟨rfl, x5⟩
                    go_wp2_with fail
                    go_ret
                    exact ⟨rfl, ((hx3.alloc _).trans x5)⟩
end Go.Proofs.Ytbkhdjbhijmghaa
