/- The law DecBad answers true: the walk (alias Tryd). -/
import Derived.Test.YtiancppdcfahaaaDoorDcK
import Derived.Test.YtiancppdcfahaaaDoorDcBadP
import Derived.Test.YtiancppdcfahaaaDoorStrs
import Derived.Deep.RegionHeld3
import Derived.Deep.DeepCutAuto
namespace Go.Proofs.YtiancppdcfahaaaDoor
open Go.RowKit

theorem size_cutd (s : ByteArray) (j : Nat) (t : ByteArray) (h : j ≤ s.size) : (s.extract 0 j ++ t).size = j + t.size := by
  rw [ByteArray.size_append, ByteArray.size_extract]; omega
theorem alloc_decV (X : World) (M S : Int) : DecIn X.heap.size M S (X.alloc (.cells #[.int .i64 M, .int .i64 S] 23)) := heap_last _ _

set_option maxHeartbeats 8000000 in
set_option maxRecDepth 100000 in
theorem DecBad_far (s : ByteArray) (A : Option Addr) (cap : Nat) (ss : List ByteArray) (w : World) (hs : s.size ≤ 9223372036854775807) (hsz : ss.length ≤ 9223372036854775807) (hl : 60 < s.size ∨ 8 < ss.length) :
    Calls Tryd.prog 6 #[.string s, .slice A ss.length cap] w fun e w' => e = .returned (.bool true) ∧ Ext w w' := by
  by_cases h1 : 60 < s.size
  · clear hl
    go_enter Tryd.func6, Tryd.ntmps6
    go_wp2_with fail
    refine (known_any _).mono ?_
    rintro e w1 ⟨rfl, x1⟩
    go_wp2_with fail
    go_ret
    exact ⟨rfl, x1⟩
  · have h2 : 8 < ss.length := by omega
    clear hl
    go_enter Tryd.func6, Tryd.ntmps6
    go_wp2_with fail
    refine (known_any _).mono ?_
    rintro e w1 ⟨rfl, x1⟩
    go_wp2_with fail
    go_ret
    exact ⟨rfl, x1⟩

set_option maxHeartbeats 8000000 in
set_option maxRecDepth 100000 in
theorem DecBad_ok (s : ByteArray) (A : Option Addr) (cap : Nat) (ss : List ByteArray) (M S e0 : Int) (w : World) (hs : s.size ≤ 60) (hsz : ss.length ≤ 8) (he : e0 ≠ 11)
    (P : ∀ w, Calls Tryd.prog 9 #[.string s] w fun e w' => e = .returned (.tuple #[.agg #[.int .i64 M, .int .i64 S], .int .i64 e0, .int .i64 0]) ∧ Ext w w') :
    Calls Tryd.prog 6 #[.string s, .slice A ss.length cap] w fun e w' => e = .returned (.bool true) ∧ Ext w w' := by
  go_enter Tryd.func6, Tryd.ntmps6
  go_wp2_with fail
  refine (known_any _).mono ?_
  rintro e w1 ⟨rfl, x1⟩
  go_wp2_with fail
  refine (P _).mono ?_
  rintro e w2 ⟨rfl, x2⟩
  go_wp2_with fail
  all_goals try (exfalso; simp only [beq_eq_false_iff_ne, beq_iff_eq, bne_iff_ne, bne_eq_false_iff_eq, ne_eq] at *; omega)
  go_ret
  exact ⟨rfl, (x1.trans x2).alloc _⟩

set_option maxHeartbeats 16000000 in
set_option maxRecDepth 100000 in
theorem DecBad_bad (s : ByteArray) (A : Option Addr) (cap : Nat) (ss : List ByteArray) (j : Nat) (M1 S1 e1 k1 M2 S2 e2 k2 : Int) (w : World) (hss : Strs w A ss) (hs : s.size ≤ 60) (hsz : ss.length ≤ 8) (hj : j ≤ s.size) (he : e1 ≠ 11 ∨ e2 ≠ 11)
    (P : ∀ w, Calls Tryd.prog 9 #[.string s] w fun e w' => e = .returned (.tuple #[.agg #[.int .i64 0, .int .i64 0], .int .i64 11, .int .i64 j]) ∧ Ext w w')
    (P1 : ∀ w, Calls Tryd.prog 9 #[.string (s.extract 0 j)] w fun e w' => e = .returned (.tuple #[.agg #[.int .i64 M1, .int .i64 S1], .int .i64 e1, .int .i64 k1]) ∧ Ext w w')
    (P2 : ∀ w, Calls Tryd.prog 9 #[.string (s.extract 0 j ++ { data := #[48] })] w fun e w' => e = .returned (.tuple #[.agg #[.int .i64 M2, .int .i64 S2], .int .i64 e2, .int .i64 k2]) ∧ Ext w w')
    (P3 : j < s.size → ∀ t : ByteArray, t.size ≤ 40 → ∀ w, Calls Tryd.prog 9 #[.string (s.extract 0 (j + 1) ++ t)] w fun e w' => e = .returned (.tuple #[.agg #[.int .i64 0, .int .i64 0], .int .i64 11, .int .i64 j]) ∧ Ext w w') :
    Calls Tryd.prog 6 #[.string s, .slice A ss.length cap] w fun e w' => e = .returned (.bool true) ∧ Ext w w' := by
  have HE := Lib.hid he
  clear he
  go_enter Tryd.func6, Tryd.ntmps6
  go_wp2_with fail
  refine (known_any _).mono ?_
  rintro e w1 ⟨rfl, x1⟩
  go_wp2_with fail
  refine (P _).mono ?_
  rintro e w2 ⟨rfl, x2⟩
  have hX := (x1.trans x2).alloc (.cells #[.int .i64 0, .int .i64 0] 23)
  go_wp2_with fail
  refine (P1 _).mono ?_
  rintro e w3 ⟨rfl, x3⟩
  replace hX := (hX.trans x3).alloc (.cells #[.int .i64 M1, .int .i64 S1] 23)
  go_wp2_with fail
  refine (P2 _).mono ?_
  rintro e w4 ⟨rfl, x4⟩
  replace hX := (hX.trans x4).alloc (.cells #[.int .i64 M2, .int .i64 S2] 23)
  clear P P1 P2 x1 x2 x3 x4
  go_wp2_with fail
  generalize w4.alloc (.cells #[.int .i64 M2, .int .i64 S2] 23) = W0 at *
  go_loopw [14] (fun x wr => ∃ i : Nat, x = .int .i64 i ∧ i ≤ ss.length ∧ Ext w wr) (fun x _ => ss.length - (intOf x).toNat)
  case atStart => exact ⟨0, rfl, by omega, hX⟩
  case round =>
    obtain ⟨i, rfl, hi, xr⟩ := hrel
    by_cases hin : i < ss.length
    · by_cases hjs : j < s.size
      · obtain ⟨a, hA, hab, hc⟩ := hss.ext xr i hin
        subst hA
        obtain ⟨t, ht⟩ : ∃ t, ss.getD i ByteArray.empty = t := ⟨_, rfl⟩
        rw [ht] at hc
        clear ht
        by_cases h40 : 40 < t.size
        · go_wp2_with fail
          go_roundw
          case rel => exact ⟨i + 1, rfl, hin, xr⟩
          case measure => simp only [intOf]; omega
        · have PT := P3 hjs t (by omega)
          have hz := size_cutd s (j + 1) t (by omega)
          have f1 : IntKind.i64.wrap ((j : Int) + 1) = (j : Int) + 1 := IntWalk.i64_in _ (by omega)
          have f2 : (0 : Int) ≤ (j : Int) + 1 := by omega
          have f3 : (j : Int) + 1 ≤ (s.size : Int) := by omega
          have f4 : ((j : Int) + 1).toNat = j + 1 := by omega
          have f5 : (0 : Int) ≤ (i : Int) := by omega
          have f6 : (i : Int) < (ss.length : Int) := by omega
          have f7 : ¬ 9223372036854775807 < (s.extract 0 (j + 1)).size + t.size := by
            have : (s.extract 0 (j + 1)).size = j + 1 := by rw [ByteArray.size_extract]; omega
            omega
          have f8 : ∀ w, (Op.stringOp .add (s.extract 0 (j + 1)) t).run Tryd.prog w = .ok (.string (s.extract 0 (j + 1) ++ t)) w := by
            exact fun w => run_string_add_sum w _ _ (by omega)
          clear hz
          go_upto_region 16 with fail
          have hc2 : ∀ w', Ext wr w' → w'.cell? (a.add i) = some (.string t) := fun w' hx => (hx.cell (by rw [block_add]; exact hab)).trans hc
          go_cut [16, 17] (fun u1 u2 wx => u1 = .int .i64 11 ∧ u2 = .int .i64 j ∧ Ext wr wx)
          case first =>
            go_region_held3 (fun w' => w'.cell? (a.add i) = some (.string t)) (first | go_keep | assumption | exact hc2 _ (ext_setDec H6 (Nat.le_refl _) _ _) | exact hc2 _ (ext_setDec (H6.alloc _) H6.size _ _) | exact hc2 _ (H6.alloc _)) (first | (go_at_call 9; (with_reducible refine (PT _).mono ?_); rintro e w6 ⟨rfl, x6⟩; (try have H6 : Ext wr w6 := (Ext.refl wr).drew.trans x6); (try have H6 : Ext wr w6 := ((Ext.refl wr).drew.alloc _).trans x6); (try have H6 : Ext wr w6 := ((Ext.refl wr).alloc _).drew.trans x6); (try have k8 := (alloc_decV _ 0 0).ext x6); (try have k8 := ((alloc_decV _ 0 0).ext (Ext.refl _).drew).ext x6); (try rw [heap_size_alloc] at k8); (try have k8c := k8.cells); (try have k8f := k8.free); have p0 := hc2 _ H6))
            all_goals
              go_wp2_with fail
              go_meet
              case rel => first
                | exact ⟨rfl, rfl, H6.alloc _⟩
                | exact ⟨rfl, rfl, ext_setDec H6 (by have := x6.size; omega) _ _⟩
          case rest =>
          obtain ⟨rfl, rfl, xc⟩ := hcut
          clear f1 f2 f3 f4 f5 f6 f7 f8 PT
          go_wp2_with fail
          go_roundw
          case rel => exact ⟨i + 1, rfl, hin, xr.trans xc⟩
          case measure => simp only [intOf]; omega
      · go_wp2_with fail
        all_goals try (exfalso; simp only [beq_eq_false_iff_ne, beq_iff_eq, bne_iff_ne, bne_eq_false_iff_eq, ne_eq] at *; omega)
        all_goals
          go_ret
          refine ⟨retB ?_, xr⟩
          first | (simp; done) | (have h := HE.out; simp; omega)
    · go_wp2_with fail
      all_goals try (exfalso; simp only [beq_eq_false_iff_ne, beq_iff_eq, bne_iff_ne, bne_eq_false_iff_eq, ne_eq] at *; omega)
      all_goals
        go_ret
        refine ⟨retB ?_, xr⟩
        first | (simp; done) | (have h := HE.out; simp; omega)

theorem DecBad_main (s : ByteArray) (A : Option Addr) (cap : Nat) (ss : List ByteArray) (w : World) (hs : s.size ≤ 9223372036854775807) (hss : Strs w A ss) (hsz : ss.length ≤ 9223372036854775807) :
    Calls Tryd.prog 6 #[.string s, .slice A ss.length cap] w fun e w' => e = .returned (.bool true) ∧ Ext w w' := by
  by_cases hl : 60 < s.size ∨ 8 < ss.length
  · exact DecBad_far s A cap ss w hs hsz hl
  · rcases bad_facts s with ⟨he, hk⟩ | ⟨j, hv, hb⟩
    · refine DecBad_ok s A cap ss (parseV s).1.1 (parseV s).1.2 (parseV s).2.1 w (by omega) (by omega) he (fun w => ?_)
      have := DParse_is s hs w
      rw [hk] at this
      exact this
    · have hz1 : (s.extract 0 j).size ≤ s.size := by rw [ByteArray.size_extract]; omega
      have hz2 : (s.extract 0 j ++ { data := #[48] }).size ≤ s.size + 1 := by
        rw [ByteArray.size_append]
        have : ByteArray.size ⟨#[48]⟩ = 1 := rfl
        omega
      have hm := hb.most
      have Q1 := fun w => DParse_is (s.extract 0 j) (by omega) w
      have Q2 := fun w => DParse_is (s.extract 0 j ++ { data := #[48] }) (by omega) w
      generalize parseV (s.extract 0 j) = V1 at *
      generalize parseV (s.extract 0 j ++ { data := #[48] }) = V2 at *
      obtain ⟨⟨M1, S1⟩, e1, k1⟩ := V1
      obtain ⟨⟨M2, S2⟩, e2, k2⟩ := V2
      exact DecBad_bad s A cap ss j M1 S1 e1 k1 M2 S2 e2 k2 w hss (by omega) (by omega) hb.le hm (fun w => ParseIs.of hs hv w) Q1 Q2
        (fun hj t ht w => ParseIs.of (by rw [size_cutd s (j + 1) t (by omega)]; omega) (hb.more hj t) w)
end Go.Proofs.YtiancppdcfahaaaDoor
