/- The walk of the document's Scaled. -/
import Derived.Test.YthfihlapgoglaaaRefT
import Derived.Test.YthfihlapgoglaaaLawSum2
import Derived.Deep.RegionHeld3
namespace Go.Proofs.Ythfihlapgoglaaa
open Go.RowKit

theorem sc_ref {M S s : Int} (g : goodB M S = true) (h0 : S ≤ s) (h1 : s ≤ 18) : scOk M S s = decide (M.natAbs * 10 ^ (s - S).toNat ≤ 9223372036854775807) ∧ scM M S s = if M < 0 then -(if M.natAbs * 10 ^ (s - S).toNat ≤ 9223372036854775807 then ((M.natAbs * 10 ^ (s - S).toNat : Nat) : Int) else 0) else (if M.natAbs * 10 ^ (s - S).toNat ≤ 9223372036854775807 then ((M.natAbs * 10 ^ (s - S).toNat : Nat) : Int) else 0) := by
  obtain ⟨e1, e2⟩ := sc_is g s h0 h1
  have hn : (M * 10 ^ (s - S).toNat).natAbs = M.natAbs * 10 ^ (s - S).toNat := by
    rw [Int.natAbs_mul, Int.natAbs_pow]; rfl
  have hp : (0 : Int) < 10 ^ (s - S).toNat := Int.pow_pos (by omega)
  have hd : decide (M * 10 ^ (s - S).toNat < 0) = decide (M < 0) := by
    by_cases hM : M < 0
    · rw [decide_eq_true hM, decide_eq_true (Int.mul_neg_of_neg_of_pos hM hp)]
    · rw [decide_eq_false hM, decide_eq_false (Int.not_lt.2 (Int.mul_nonneg (by omega) (Int.le_of_lt hp)))]
  rw [e1, e2, canZ2]
  have e3 : (canZ (M * 10 ^ (s - S).toNat) 0).1.1 = decMv (decide (M * 10 ^ (s - S).toNat < 0)) (M * 10 ^ (s - S).toNat).natAbs 0 := rfl
  rw [e3, hn, hd, decOk0]
  refine ⟨rfl, ?_⟩
  unfold decMv
  rw [decOk0]
  by_cases hN : M.natAbs * 10 ^ (s - S).toNat ≤ 9223372036854775807
  · rw [decide_eq_true hN, if_pos rfl, if_pos hN]
    by_cases hM : M < 0
    · rw [decide_eq_true hM, if_pos rfl, if_pos hM]; rfl
    · rw [decide_eq_false hM, if_neg (by decide), if_neg hM]; rfl
  · rw [decide_eq_false hN, if_neg (by decide), if_neg hN]
    split <;> rfl
theorem sc_none {M S s : Int} (h : ¬ (goodB M S = true ∧ S ≤ s ∧ s ≤ 18)) : scOk M S s = false ∧ scM M S s = 0 := by
  have : scIn M S s = false := by
    unfold scIn
    by_cases g : goodB M S = true
    · rw [g]
      by_cases h1 : S ≤ s
      · rw [decide_eq_true h1, decide_eq_false (fun h2 => h ⟨g, h1, h2⟩)]; rfl
      · rw [decide_eq_false h1]; rfl
    · rw [show goodB M S = false from by simpa using g]; rfl
  unfold scOk scM
  rw [this]
  exact ⟨rfl, rfl⟩

set_option maxHeartbeats 8000000 in
set_option maxRecDepth 100000 in
theorem RScaled_any (M S s : Int) (w : World) (hM : I64 M) (hS : I64 S) (hs : I64 s) :
    Calls Try.prog 16 #[decV M S, .int .i64 s] w fun e w' => e = .returned (.tuple #[.int .i64 (scM M S s), .bool (scOk M S s)]) ∧ Ext w w' := by
  have G := fun w => RGood_any M S w hM hS
  have hx : Ext w (w.alloc (.cells #[.int .i64 M, .int .i64 S] 25)) := (Ext.refl _).alloc _
  have h1 : DecIn w.heap.size M S (w.alloc (.cells #[.int .i64 M, .int .i64 S] 25)) := heap_last _ _
  unfold decV at *
  unfold I64 at hS hs
  by_cases hg : goodB M S = true
  · obtain ⟨a1, a2, a3⟩ := good_range hg
    by_cases h2 : S ≤ s
    · by_cases h3 : s ≤ 18
      · obtain ⟨r1, r2⟩ := sc_ref hg h2 h3
        rw [r1, r2]
        rw [hg] at G
        clear hg r1 r2
        obtain ⟨k, hk⟩ : ∃ k : Nat, s - S = k := ⟨(s - S).toNat, by omega⟩
        rw [show (s - S).toNat = k from by omega]
        have A := fun w => amount_any M w hM
        have T : ∀ v w, DigV v (digs M.natAbs) w → Calls Try.prog 39 #[v, .int .i64 (IntKind.i64.wrap (s - S))] w fun e w' => (∃ v', e = .returned v' ∧ DigV v' (digs (M.natAbs * 10 ^ k)) w') ∧ Ext w w' := fun v w h => by
          rw [show IntKind.i64.wrap (s - S) = s - S from IntWalk.i64_in _ (by omega), hk, ← tensD_digs]
          refine tens_any v (digs M.natAbs) k w h ?_ (by omega)
          have : (digs M.natAbs).length ≤ 19 := digs_length (by unfold I64 at hM; have : (9223372036854775808 : Nat) < 10 ^ 19 := by decide
                                                                omega)
          omega
        have Wn : ∀ v w, DigV v (digs (M.natAbs * 10 ^ k)) w → Calls Try.prog 40 #[v] w fun e w' => e = .returned (.tuple #[.int .i64 (if M.natAbs * 10 ^ k ≤ 9223372036854775807 then ((M.natAbs * 10 ^ k : Nat) : Int) else 0), .bool (decide (M.natAbs * 10 ^ k ≤ 9223372036854775807))]) ∧ Ext w w' := fun v w h => by
          refine within_digs v _ w h ?_
          rw [← tensD_digs]
          have : (digs M.natAbs).length ≤ 19 := digs_length (by unfold I64 at hM; have : (9223372036854775808 : Nat) < 10 ^ 19 := by decide
                                                                omega)
          unfold tensD
          split
          · simp
          · rw [List.length_append, List.length_replicate]; omega
        have hr : Hid ((0 : Int) ≤ (if M.natAbs * 10 ^ k ≤ 9223372036854775807 then ((M.natAbs * 10 ^ k : Nat) : Int) else 0) ∧ (if M.natAbs * 10 ^ k ≤ 9223372036854775807 then ((M.natAbs * 10 ^ k : Nat) : Int) else 0) ≤ 9223372036854775807) := by
          unfold Hid; split <;> omega
        generalize (if M.natAbs * 10 ^ k ≤ 9223372036854775807 then ((M.natAbs * 10 ^ k : Nat) : Int) else 0) = R at *
        generalize decide (M.natAbs * 10 ^ k ≤ 9223372036854775807) = ok at *
        generalize digs (M.natAbs * 10 ^ k) = l2 at *
        generalize digs M.natAbs = l1 at *
        go_enter Try.func16, Try.ntmps16
        obtain ⟨c0, c1⟩ := h1.cells
        go_wp2_with fail
        refine (G _).mono ?_
        rintro e w1 ⟨rfl, x1⟩
        replace h1 := h1.ext x1
        replace hx := hx.trans x1
        clear c0 c1
        obtain ⟨c0, c1⟩ := h1.cells
        go_wp2_with fail
        clear hk
        go_region_held3 (fun w' => w'.cell? ⟨w.heap.size, 0, none⟩ = some (.int .i64 M) ∧ w'.cell? ⟨w.heap.size, 1, none⟩ = some (.int .i64 S)) (first | exact ⟨p0, p1⟩ | exact ⟨c0, c1⟩ | go_keep) (first
          | (go_at_call 34; (with_reducible refine (A _).mono ?_); rintro e w2 ⟨⟨v1, rfl, hv1⟩, x2⟩; have y2 := (by first | exact (Ext.refl w1).drew.trans x2 | exact x2 : Ext w1 w2); have g2 := h1.ext y2; have p0 := g2.cells.1; have p1 := g2.cells.2)
          | (go_at_call 39; (with_reducible refine (T _ _ ?h).mono ?_); (case h => first | exact hv1 | exact hv1.ext (Ext.refl _).drew); rintro e w3 ⟨⟨v2, rfl, hv2⟩, x3⟩; have y3 := (by first | exact y2.trans x3 | exact y2.drew.trans x3 : Ext w1 w3); have g3 := h1.ext y3; have p0 := g3.cells.1; have p1 := g3.cells.2)
          | (go_at_call 40; (with_reducible refine (Wn _ _ ?h).mono ?_); (case h => first | exact hv2 | exact hv2.ext (Ext.refl _).drew); rintro e w4 ⟨rfl, x4⟩; have y4 := (by first | exact y3.trans x4 | exact y3.drew.trans x4 : Ext w1 w4); have g4 := h1.ext y4; have p0 := g4.cells.1; have p1 := g4.cells.2))
        have hr2 := hr.out
        clear hr A T Wn c0 c1
        obtain ⟨c0, c1⟩ := g4.cells
        by_cases hm : M < 0
        · go_wp2_with fail
          go_ret2
          exact ⟨rfl, hx.trans y4⟩
        · go_wp2_with fail
          go_ret2
          exact ⟨by first | rfl | (rw [if_neg (by omega)]; rfl), hx.trans y4⟩
      · obtain ⟨r1, r2⟩ := sc_out (M := M) (S := S) (s := s) (.inr (by omega))
        rw [r1, r2]
        rw [hg] at G
        clear hg r1 r2
        go_enter Try.func16, Try.ntmps16
        obtain ⟨c0, c1⟩ := h1.cells
        go_wp2_with fail
        refine (G _).mono ?_
        rintro e w1 ⟨rfl, x1⟩
        replace h1 := h1.ext x1
        replace hx := hx.trans x1
        clear c0 c1
        obtain ⟨c0, c1⟩ := h1.cells
        go_wp2_with fail
        go_ret2
        exact ⟨rfl, hx⟩
    · obtain ⟨r1, r2⟩ := sc_out (M := M) (S := S) (s := s) (.inl (by omega))
      rw [r1, r2]
      rw [hg] at G
      clear hg r1 r2
      go_enter Try.func16, Try.ntmps16
      obtain ⟨c0, c1⟩ := h1.cells
      go_wp2_with fail
      refine (G _).mono ?_
      rintro e w1 ⟨rfl, x1⟩
      replace h1 := h1.ext x1
      replace hx := hx.trans x1
      clear c0 c1
      obtain ⟨c0, c1⟩ := h1.cells
      go_wp2_with fail
      go_ret2
      exact ⟨rfl, hx⟩
  · obtain ⟨r2, r1⟩ := sc_none (M := M) (S := S) (s := s) (fun h => hg h.1)
    rw [r1, r2]
    rw [show goodB M S = false from by simpa using hg] at G
    clear hg r1 r2
    go_enter Try.func16, Try.ntmps16
    obtain ⟨c0, c1⟩ := h1.cells
    go_wp2_with fail
    refine (G _).mono ?_
    rintro e w1 ⟨rfl, x1⟩
    replace h1 := h1.ext x1
    replace hx := hx.trans x1
    clear c0 c1
    obtain ⟨c0, c1⟩ := h1.cells
    go_wp2_with fail
    go_ret2
    exact ⟨rfl, hx⟩
end Go.Proofs.Ythfihlapgoglaaa
