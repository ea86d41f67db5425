/- polyglotlaw9.known is true: the walk. -/
import Derived.Test.YtjjnmefihdjglaaFamG
namespace Go.Proofs.Ytjjnmefihdjglaa
open Go.RowKit

/-- The two points of known. -/
def kp1 (b : Nat) : PtD := ⟨some ⟨b, 0, none⟩, 1, [(⟨#[120]⟩, ⟨#[]⟩)], 0, false, 0, 0, 0, 0, false, 0⟩
def kp2 : PtD := ⟨none, 0, [], 0, false, 0, 0, 1, 0, false, 0⟩
def ky1 : PtY := (⟨[(⟨#[120]⟩, ⟨#[]⟩)], 0, false, 0, 0, false, 0⟩, 0, 0)
def ky2 : PtY := (⟨[], 0, false, 0, 0, false, 0⟩, 1, 0)

set_option maxHeartbeats 8000000 in
set_option maxRecDepth 100000 in
theorem known9_any (w : World) : Calls Try.prog 8 #[] w fun e w' => e = .returned (.bool true) ∧ Ext w w' := by
  obtain ⟨W, hW⟩ : ∃ W, ((w.alloc (.cells #[.string ⟨#[120]⟩, .string ⟨#[]⟩] 61)).alloc (.cells #[.slice (some ⟨w.heap.size, 0, none⟩) 1 1, .int .i64 0, .bool false, .int .i64 0, .int .i64 0, .int .i64 0, .int .i64 0, .bool false, .int .i64 0, .slice none 0 0, .int .i64 0, .bool false, .int .i64 0, .int .i64 0, .int .i64 1, .int .i64 0, .bool false, .int .i64 0] 35)).alloc
      (.cells #[.string ⟨#[97]⟩, .int .i64 2, .string ⟨#[]⟩, .string ⟨#[]⟩, .slice (some ⟨w.heap.size + 1, 0, none⟩) 2 2] 26) = W := ⟨_, rfl⟩
  have x1 : Ext w W := by rw [← hW]; exact (((Ext.refl w).alloc _).alloc _).alloc _
  have g0 : W.heap[w.heap.size]? = some (.cells #[.string ⟨#[120]⟩, .string ⟨#[]⟩] 61 (0, 0)) := by
    rw [← hW]
    exact (((Ext.refl _).alloc _).heap (by simp; omega)).trans (heap_at2a _ _ _)
  have g1 : W.heap[w.heap.size + 1]? = some (.cells #[.slice (some ⟨w.heap.size, 0, none⟩) 1 1, .int .i64 0, .bool false, .int .i64 0, .int .i64 0, .int .i64 0, .int .i64 0, .bool false, .int .i64 0, .slice none 0 0, .int .i64 0, .bool false, .int .i64 0, .int .i64 0, .int .i64 1, .int .i64 0, .bool false, .int .i64 0] 35 (0, 0)) := by
    rw [← hW]
    exact (((Ext.refl _).alloc _).heap (by simp)).trans (heap_at2b _ _ _)
  have g2 : FamIn (w.heap.size + 1 + 1) ⟨#[97]⟩ 2 ⟨#[]⟩ ⟨#[]⟩ (.slice (some ⟨w.heap.size + 1, 0, none⟩) 2 2) W := by
    rw [← hW]
    have := heap_last ((w.alloc (.cells #[.string ⟨#[120]⟩, .string ⟨#[]⟩] 61)).alloc (.cells #[.slice (some ⟨w.heap.size, 0, none⟩) 1 1, .int .i64 0, .bool false, .int .i64 0, .int .i64 0, .int .i64 0, .int .i64 0, .bool false, .int .i64 0, .slice none 0 0, .int .i64 0, .bool false, .int .i64 0, .int .i64 0, .int .i64 1, .int .i64 0, .bool false, .int .i64 0] 35)) (.cells #[.string ⟨#[97]⟩, .int .i64 2, .string ⟨#[]⟩, .string ⟨#[]⟩, .slice (some ⟨w.heap.size + 1, 0, none⟩) 2 2] 26)
    rw [heap_size_alloc, heap_size_alloc] at this
    exact this
  have hb1 : w.heap.size + 1 < W.heap.size := (Array.getElem?_eq_some_iff.1 g1).1
  have PF : PtsA (some ⟨w.heap.size + 1, 0, none⟩) [kp1 w.heap.size, kp2] W := by
    refine ⟨fun _ => ⟨_, 0, rfl, hb1, fun i hi => ?_⟩, fun p hp => ?_⟩
    · simp only [Lib.cell_of_heap g1]
      match i, hi with
      | 0, _ => exact ⟨rfl, rfl, rfl, rfl, rfl, rfl, rfl, rfl, rfl⟩
      | 1, _ => exact ⟨rfl, rfl, rfl, rfl, rfl, rfl, rfl, rfl, rfl⟩
    · simp at hp
      rcases hp with rfl | rfl
      · refine ⟨by simp [kp1], fun _ => ⟨_, 0, rfl, by omega, fun i hi => ?_⟩, ?_, by simp [kp1, I64], by simp [kp1, I64]⟩
        · simp only [Lib.cell_of_heap g0]
          match i, hi with
          | 0, _ => exact ⟨rfl, rfl⟩
        · intro x hx
          simp [kp1] at hx
          subst hx
          decide
      · exact ⟨by decide, LabA.nil _ _, by intro x hx; simp [kp2] at hx, by simp [kp2, I64], by simp [kp2, I64]⟩
  have SO := famSort_any ⟨#[97]⟩ 2 ⟨#[]⟩ ⟨#[]⟩ (some ⟨w.heap.size + 1, 0, none⟩) 2 [kp1 w.heap.size, kp2] W (by simp) (by intro p hp; simp at hp; rcases hp with rfl | rfl <;> simp [kp1, kp2]) PF
  change Calls _ _ #[.agg #[.string ⟨#[97]⟩, .int .i64 2, .string ⟨#[]⟩, .string ⟨#[]⟩, .slice (some ⟨w.heap.size + 1, 0, none⟩) 2 2]] _ _ at SO
  have hris : Ris cmpY [ky2, ky1] := by
    unfold Ris
    rw [List.pairwise_cons]
    exact ⟨by intro x hx; simp at hx; subst hx; decide +kernel, by simp⟩
  have hperm : [ky2, ky1].Perm ([kp1 w.heap.size, kp2].map PtD.y) := List.Perm.swap _ _ _
  replace hW := Lib.hid hW
  go_enter Try.func8, Try.ntmps8
  go_wp2_with fail
  rw [hW.out]
  (with_reducible refine SO.mono ?_)
  rintro e w1 ⟨hs, x2⟩
  obtain ⟨a, c, L, hLy, rfl, PG, _⟩ := hs.good _ hperm hris
  clear hs SO hris hperm g0 g1
  have hL2 : L.length ≤ 1000000 := by have := congrArg List.length hLy; simp at this; omega
  have S1 : ∀ w, Calls Try.prog 13 #[.agg #[.string ⟨#[97]⟩, .int .i64 2, .string ⟨#[]⟩, .string ⟨#[]⟩], .int .i64 0] w fun e w' => e = .returned (.tuple #[.string ⟨#[97, 95, 116, 111, 116, 97, 108]⟩, .bool true]) ∧ Ext w w' := fun w => by
    have := Series_any ⟨#[97]⟩ 2 ⟨#[]⟩ ⟨#[]⟩ 0 w (by decide)
    rw [show (if (0 : Int) ∈ rolesOf 2 then (⟨#[97]⟩ : ByteArray) ++ tailOf 2 0 else ⟨#[]⟩) = ⟨#[97, 95, 116, 111, 116, 97, 108]⟩ from by decide +kernel, show decide ((0 : Int) ∈ rolesOf 2) = true from by decide +kernel] at this
    exact this
  have S2 : ∀ w, Calls Try.prog 13 #[.agg #[.string ⟨#[97]⟩, .int .i64 2, .string ⟨#[]⟩, .string ⟨#[]⟩], .int .i64 4] w fun e w' => e = .returned (.tuple #[.string ⟨#[]⟩, .bool false]) ∧ Ext w w' := fun w => by
    have := Series_any ⟨#[97]⟩ 2 ⟨#[]⟩ ⟨#[]⟩ 4 w (by decide)
    rw [show (if (4 : Int) ∈ rolesOf 2 then (⟨#[97]⟩ : ByteArray) ++ tailOf 2 4 else ⟨#[]⟩) = ⟨#[]⟩ from by decide +kernel, show decide ((4 : Int) ∈ rolesOf 2) = false from by decide +kernel] at this
    exact this
  have KK : ∀ w, Calls Try.prog 16 #[.string ⟨#[104, 105, 115, 116, 111, 103, 114, 97, 109]⟩] w fun e w' => e = .returned (.tuple #[.int .i64 3, .bool true]) ∧ Ext w w' := fun w => by
    have := Kind_any ⟨#[104, 105, 115, 116, 111, 103, 114, 97, 109]⟩ w
    rw [show kindOf ⟨#[104, 105, 115, 116, 111, 103, 114, 97, 109]⟩ = (3, true) from by decide +kernel] at this
    exact this
  have T0 : ∀ w, Calls Try.prog 17 #[.int .i64 0] w fun e w' => e = .returned (.string ⟨#[117, 110, 107, 110, 111, 119, 110]⟩) ∧ Ext w w' := fun w => Typed_any 0 w
  have T7 : ∀ w, Calls Try.prog 17 #[.int .i64 7] w fun e w' => e = .returned (.string ⟨#[]⟩) ∧ Ext w w' := fun w => Typed_any 7 w
  have G1 : ∀ W', Ext W W' → Calls Try.prog 18 #[.agg #[.string ⟨#[97]⟩, .int .i64 2, .string ⟨#[]⟩, .string ⟨#[]⟩, .slice (some ⟨w.heap.size + 1, 0, none⟩) 2 2]] W' fun e w' => e = .returned (.bool false) ∧ Ext W' w' := fun W' x => by
    have := famGood_any ⟨#[97]⟩ 2 ⟨#[]⟩ ⟨#[]⟩ (some ⟨w.heap.size + 1, 0, none⟩) 2 [kp1 w.heap.size, kp2] W' (by simp) (PF.ext x) (by decide) (by decide) (by decide)
    rw [goodFam_y, show goodFamY ⟨#[97]⟩ 2 ⟨#[]⟩ ⟨#[]⟩ (List.map PtD.y [kp1 w.heap.size, kp2]) = false from (by decide +kernel : goodFamY ⟨#[97]⟩ 2 ⟨#[]⟩ ⟨#[]⟩ [ky1, ky2] = false)] at this
    exact this
  have G2 : ∀ W', Ext w1 W' → Calls Try.prog 18 #[.agg #[.string ⟨#[97]⟩, .int .i64 2, .string ⟨#[]⟩, .string ⟨#[]⟩, .slice a L.length c]] W' fun e w' => e = .returned (.bool true) ∧ Ext W' w' := fun W' x => by
    have := famGood_any ⟨#[97]⟩ 2 ⟨#[]⟩ ⟨#[]⟩ a c L W' (by omega) (PG.ext x) (by decide) (by decide) (by decide)
    rw [goodFam_y, hLy, show goodFamY ⟨#[97]⟩ 2 ⟨#[]⟩ ⟨#[]⟩ [ky2, ky1] = true from by decide +kernel] at this
    exact this
  have E1 : ∀ W', Ext w1 W' → Calls Try.prog 11 #[.agg #[.string ⟨#[97]⟩, .int .i64 2, .string ⟨#[]⟩, .string ⟨#[]⟩, .slice a L.length c], .agg #[.string ⟨#[97]⟩, .int .i64 2, .string ⟨#[]⟩, .string ⟨#[]⟩, .slice a L.length c]] W' fun e w' => e = .returned (.bool true) ∧ Ext W' w' := fun W' x => by
    have := famSame_any ⟨#[97]⟩ 2 ⟨#[]⟩ ⟨#[]⟩ a c L ⟨#[97]⟩ 2 ⟨#[]⟩ ⟨#[]⟩ a c L W' hL2 hL2 (PG.ext x) (PG.ext x)
    rw [sameYs_refl, show headB ⟨#[97]⟩ 2 ⟨#[]⟩ ⟨#[]⟩ ⟨#[97]⟩ 2 ⟨#[]⟩ ⟨#[]⟩ = true from by decide +kernel] at this
    exact this
  have E2 : ∀ W', Ext w1 W' → Ext W W' → Calls Try.prog 11 #[.agg #[.string ⟨#[97]⟩, .int .i64 2, .string ⟨#[]⟩, .string ⟨#[]⟩, .slice (some ⟨w.heap.size + 1, 0, none⟩) 2 2], .agg #[.string ⟨#[97]⟩, .int .i64 2, .string ⟨#[]⟩, .string ⟨#[]⟩, .slice a L.length c]] W' fun e w' => e = .returned (.bool false) ∧ Ext W' w' := fun W' x y => by
    have := famSame_any ⟨#[97]⟩ 2 ⟨#[]⟩ ⟨#[]⟩ (some ⟨w.heap.size + 1, 0, none⟩) 2 [kp1 w.heap.size, kp2] ⟨#[97]⟩ 2 ⟨#[]⟩ ⟨#[]⟩ a c L W' (by simp) hL2 (PF.ext y) (PG.ext x)
    rw [hLy, show sameYs (List.map PtD.y [kp1 w.heap.size, kp2]) [ky2, ky1] = false from (by decide +kernel : sameYs [ky1, ky2] [ky2, ky1] = false), Bool.and_false] at this
    exact this
  clear PF PG hLy hL2 hb1
  replace g2 := g2.ext x2
  have k2 : FamIn w1.heap.size ⟨#[97]⟩ 2 ⟨#[]⟩ ⟨#[]⟩ (.slice a L.length c) (w1.alloc (.cells #[.string ⟨#[97]⟩, .int .i64 2, .string ⟨#[]⟩, .string ⟨#[]⟩, .slice a L.length c] 26)) := heap_last _ _
  have xa := (Ext.refl w1).alloc (.cells #[.string ⟨#[97]⟩, .int .i64 2, .string ⟨#[]⟩, .string ⟨#[]⟩, .slice a L.length c] 26)
  replace g2 := g2.ext xa
  obtain ⟨c0, c1, c2, c3, c4⟩ := g2.cells
  go_wp2_with fail
  (with_reducible refine (S1 _).mono ?_)
  rintro e w2 ⟨rfl, y1⟩
  replace g2 := g2.ext y1
  replace k2 := k2.ext y1
  replace xa := xa.trans y1
  clear c0 c1 c2 c3 c4 y1
  obtain ⟨c0, c1, c2, c3, c4⟩ := g2.cells
  go_wp2_with fail
  (with_reducible refine (S2 _).mono ?_)
  rintro e w3 ⟨rfl, y1⟩
  replace g2 := g2.ext y1
  replace k2 := k2.ext y1
  replace xa := xa.trans y1
  clear c0 c1 c2 c3 c4 y1
  obtain ⟨c0, c1, c2, c3, c4⟩ := g2.cells
  obtain ⟨d0, d1, d2, d3, d4⟩ := k2.cells
  go_wp2_with fail
  (with_reducible refine (KK _).mono ?_)
  rintro e w4 ⟨rfl, y1⟩
  replace g2 := g2.ext y1
  replace k2 := k2.ext y1
  replace xa := xa.trans y1
  clear c0 c1 c2 c3 c4 d0 d1 d2 d3 d4 y1
  obtain ⟨c0, c1, c2, c3, c4⟩ := g2.cells
  obtain ⟨d0, d1, d2, d3, d4⟩ := k2.cells
  go_wp2_with fail
  (with_reducible refine (G1 _ (x2.trans xa)).mono ?_)
  rintro e w5 ⟨rfl, y1⟩
  replace g2 := g2.ext y1
  replace k2 := k2.ext y1
  replace xa := xa.trans y1
  clear c0 c1 c2 c3 c4 d0 d1 d2 d3 d4 y1
  obtain ⟨c0, c1, c2, c3, c4⟩ := g2.cells
  obtain ⟨d0, d1, d2, d3, d4⟩ := k2.cells
  go_wp2_with fail
  (with_reducible refine (G2 _ xa).mono ?_)
  rintro e w6 ⟨rfl, y1⟩
  replace g2 := g2.ext y1
  replace k2 := k2.ext y1
  replace xa := xa.trans y1
  clear c0 c1 c2 c3 c4 d0 d1 d2 d3 d4 y1
  obtain ⟨c0, c1, c2, c3, c4⟩ := g2.cells
  obtain ⟨d0, d1, d2, d3, d4⟩ := k2.cells
  go_wp2_with fail
  (with_reducible refine (T0 _).mono ?_)
  rintro e w7 ⟨rfl, y1⟩
  replace g2 := g2.ext y1
  replace k2 := k2.ext y1
  replace xa := xa.trans y1
  clear c0 c1 c2 c3 c4 d0 d1 d2 d3 d4 y1
  obtain ⟨c0, c1, c2, c3, c4⟩ := g2.cells
  obtain ⟨d0, d1, d2, d3, d4⟩ := k2.cells
  go_wp2_with fail
  (with_reducible refine (T7 _).mono ?_)
  rintro e w8 ⟨rfl, y1⟩
  replace g2 := g2.ext y1
  replace k2 := k2.ext y1
  replace xa := xa.trans y1
  clear c0 c1 c2 c3 c4 d0 d1 d2 d3 d4 y1
  obtain ⟨c0, c1, c2, c3, c4⟩ := g2.cells
  obtain ⟨d0, d1, d2, d3, d4⟩ := k2.cells
  go_wp2_with fail
  (with_reducible refine (E1 _ xa).mono ?_)
  rintro e w9 ⟨rfl, y1⟩
  replace g2 := g2.ext y1
  replace k2 := k2.ext y1
  replace xa := xa.trans y1
  clear c0 c1 c2 c3 c4 d0 d1 d2 d3 d4 y1
  obtain ⟨c0, c1, c2, c3, c4⟩ := g2.cells
  obtain ⟨d0, d1, d2, d3, d4⟩ := k2.cells
  go_wp2_with fail
  (with_reducible refine (E2 _ xa (x2.trans xa)).mono ?_)
  rintro e w10 ⟨rfl, y1⟩
  clear c0 c1 c2 c3 c4 d0 d1 d2 d3 d4
  go_wp2_with fail
  go_ret
  exact ⟨rfl, ((x1.trans x2).trans xa).trans y1⟩
end Go.Proofs.Ytjjnmefihdjglaa
