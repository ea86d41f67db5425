/- The law DecTells answers true: the walk (alias Tryd). -/
import Derived.Test.YtiancppdcfahaaaDoorDcK
import Derived.Test.YtiancppdcfahaaaDoorStampN
import Derived.Test.YtiancppdcfahaaaDoorRefG
import Derived.Deep.RegionHeld3
namespace Go.Proofs.YtiancppdcfahaaaDoor
open Go.RowKit

set_option maxHeartbeats 8000000 in
set_option maxRecDepth 100000 in
theorem DecTells_far (s : ByteArray) (m n M S : Int) (w : World) (hs : s.size ≤ 9223372036854775807) (hl : 100 < s.size) :
    Calls Tryd.prog 3 #[.string s, .int .i64 m, .int .i64 n, .agg #[.int .i64 M, .int .i64 S]] w fun e w' => e = .returned (.bool true) ∧ Ext w w' := by
  have hx := (Ext.refl w).alloc (.cells #[.int .i64 M, .int .i64 S] 23)
  go_enter Tryd.func3, Tryd.ntmps3
  go_wp2_with fail
  refine (known_any _).mono ?_
  rintro e w1 ⟨rfl, x1⟩
  go_wp2_with fail
  go_ret
  exact ⟨rfl, hx.trans x1⟩

set_option maxHeartbeats 40000000 in
set_option maxRecDepth 100000 in
theorem DecTells_near (s : ByteArray) (m n M S a1 a2 e1 k1 x1 x2 z1 z2 : Int) (xo zo g : Bool) (P Q : ByteArray) (w : World) (hs : s.size ≤ 100) (jj : Int) (HN : Hid (wrap64 ((IntKind.u64.wrap n).tmod 25) = jj))
    (C1 : ∀ w, Calls Tryd.prog 9 #[.string s] w fun e w' => e = .returned (.tuple #[.agg #[.int .i64 a1, .int .i64 a2], .int .i64 e1, .int .i64 k1]) ∧ Ext w w')
    (C2 : ∀ w, Calls Tryd.prog 10 #[.string s] w fun e w' => e = .returned (.tuple #[.agg #[.int .i64 a1, .int .i64 a2], .int .i64 e1, .int .i64 k1]) ∧ Ext w w')
    (C3 : ∀ w, Calls Tryd.prog 11 #[.int .i64 m, .int .i64 n] w fun e w' => e = .returned (.tuple #[.agg #[.int .i64 x1, .int .i64 x2], .bool xo]) ∧ Ext w w')
    (C4 : ∀ w, Calls Tryd.prog 12 #[.int .i64 m, .int .i64 n] w fun e w' => e = .returned (.tuple #[.agg #[.int .i64 x1, .int .i64 x2], .bool xo]) ∧ Ext w w')
    (C5 : ∀ w, Calls Tryd.prog 11 #[.int .i64 m, .int .i64 jj] w fun e w' => e = .returned (.tuple #[.agg #[.int .i64 z1, .int .i64 z2], .bool zo]) ∧ Ext w w')
    (C6 : ∀ w, Calls Tryd.prog 12 #[.int .i64 m, .int .i64 jj] w fun e w' => e = .returned (.tuple #[.agg #[.int .i64 z1, .int .i64 z2], .bool zo]) ∧ Ext w w')
    (D1 : ∀ w, Calls Tryd.prog 13 #[.agg #[.int .i64 M, .int .i64 S]] w fun e w' => e = .returned (.bool g) ∧ Ext w w')
    (D2 : ∀ w, Calls Tryd.prog 14 #[.agg #[.int .i64 M, .int .i64 S]] w fun e w' => e = .returned (.bool g) ∧ Ext w w')
    (D3 : ∀ w, Calls Tryd.prog 15 #[.agg #[.int .i64 M, .int .i64 S]] w fun e w' => e = .returned (.string P) ∧ Ext w w')
    (D4 : ∀ w, Calls Tryd.prog 16 #[.agg #[.int .i64 M, .int .i64 S]] w fun e w' => e = .returned (.string P) ∧ Ext w w')
    (D5 : ∀ w, Calls Tryd.prog 15 #[.agg #[.int .i64 z1, .int .i64 z2]] w fun e w' => e = .returned (.string Q) ∧ Ext w w')
    (D6 : ∀ w, Calls Tryd.prog 16 #[.agg #[.int .i64 z1, .int .i64 z2]] w fun e w' => e = .returned (.string Q) ∧ Ext w w') :
    Calls Tryd.prog 3 #[.string s, .int .i64 m, .int .i64 n, .agg #[.int .i64 M, .int .i64 S]] w fun e w' => e = .returned (.bool true) ∧ Ext w w' := by
  have hx := (Ext.refl w).alloc (.cells #[.int .i64 M, .int .i64 S] 23)
  have h0 : DecIn w.heap.size M S (w.alloc (.cells #[.int .i64 M, .int .i64 S] 23)) := heap_last _ _
  go_enter Tryd.func3, Tryd.ntmps3
  go_wp2_with fail
  refine (known_any _).mono ?_
  rintro e w0 ⟨rfl, x0⟩
  replace hx := hx.trans x0
  replace h0 := h0.ext x0
  clear x0
  go_wp2_with fail
  refine (C1 _).mono ?_
  rintro e wa ⟨rfl, x0⟩
  replace hx := (hx.trans x0).alloc (.cells #[.int .i64 a1, .int .i64 a2] 23)
  replace h0 := (h0.ext x0).ext ((Ext.refl _).alloc (.cells #[.int .i64 a1, .int .i64 a2] 23))
  have h1 : DecIn wa.heap.size a1 a2 (wa.alloc (.cells #[.int .i64 a1, .int .i64 a2] 23)) := heap_last _ _
  clear x0
  go_wp2_with fail
  refine (C2 _).mono ?_
  rintro e wb ⟨rfl, x0⟩
  have y0 := x0.alloc (.cells #[.int .i64 a1, .int .i64 a2] 23)
  replace hx := hx.trans y0
  replace h0 := h0.ext y0
  replace h1 := h1.ext y0
  have h2 : DecIn wb.heap.size a1 a2 (wb.alloc (.cells #[.int .i64 a1, .int .i64 a2] 23)) := heap_last _ _
  clear x0 y0
  go_wp2_with fail
  refine (C3 _).mono ?_
  rintro e wc ⟨rfl, x0⟩
  have y0 := x0.alloc (.cells #[.int .i64 x1, .int .i64 x2] 23)
  replace hx := hx.trans y0
  replace h0 := h0.ext y0
  replace h1 := h1.ext y0
  replace h2 := h2.ext y0
  have h3 : DecIn wc.heap.size x1 x2 (wc.alloc (.cells #[.int .i64 x1, .int .i64 x2] 23)) := heap_last _ _
  clear x0 y0
  go_wp2_with fail
  refine (C4 _).mono ?_
  rintro e wd ⟨rfl, x0⟩
  have y0 := x0.alloc (.cells #[.int .i64 x1, .int .i64 x2] 23)
  replace hx := hx.trans y0
  replace h0 := h0.ext y0
  replace h1 := h1.ext y0
  replace h2 := h2.ext y0
  replace h3 := h3.ext y0
  have h4 : DecIn wd.heap.size x1 x2 (wd.alloc (.cells #[.int .i64 x1, .int .i64 x2] 23)) := heap_last _ _
  clear x0 y0
  go_wp2_with fail
  rw [HN.out]
  refine (C5 _).mono ?_
  rintro e we ⟨rfl, x0⟩
  have y0 := x0.alloc (.cells #[.int .i64 z1, .int .i64 z2] 23)
  replace hx := hx.trans y0
  replace h0 := h0.ext y0
  replace h1 := h1.ext y0
  replace h2 := h2.ext y0
  replace h3 := h3.ext y0
  replace h4 := h4.ext y0
  have h5 : DecIn we.heap.size z1 z2 (we.alloc (.cells #[.int .i64 z1, .int .i64 z2] 23)) := heap_last _ _
  clear x0 y0
  go_wp2_with fail
  rw [HN.out]
  refine (C6 _).mono ?_
  rintro e wf ⟨rfl, x0⟩
  have y0 := x0.alloc (.cells #[.int .i64 z1, .int .i64 z2] 23)
  replace hx := hx.trans y0
  replace h0 := h0.ext y0
  replace h1 := h1.ext y0
  replace h2 := h2.ext y0
  replace h3 := h3.ext y0
  replace h4 := h4.ext y0
  replace h5 := h5.ext y0
  have h6 : DecIn wf.heap.size z1 z2 (wf.alloc (.cells #[.int .i64 z1, .int .i64 z2] 23)) := heap_last _ _
  clear x0 y0 C1 C2 C3 C4 C5 C6 HN
  go_upto_region 11 with fail
  generalize wf.alloc (.cells #[.int .i64 z1, .int .i64 z2] 23) = W at *
  generalize wa.heap.size = b1 at *
  generalize wb.heap.size = b2 at *
  generalize wc.heap.size = b3 at *
  generalize wd.heap.size = b4 at *
  generalize we.heap.size = b5 at *
  generalize wf.heap.size = b6 at *
  obtain ⟨b0, hb0⟩ : ∃ b0, w.heap.size = b0 := ⟨_, rfl⟩
  rw [hb0] at h0 ⊢
  obtain ⟨c00, c01⟩ := h0.cells
  obtain ⟨c10, c11⟩ := h1.cells
  obtain ⟨c20, c21⟩ := h2.cells
  obtain ⟨c30, c31⟩ := h3.cells
  obtain ⟨c40, c41⟩ := h4.cells
  obtain ⟨c50, c51⟩ := h5.cells
  obtain ⟨c60, c61⟩ := h6.cells
  have Z : Ext W W.drew := (Ext.refl _).drew
  clear hb0
  go_region_held3 (fun w' => w'.cell? ⟨b0, 0, none⟩ = some (.int .i64 M) ∧ w'.cell? ⟨b0, 1, none⟩ = some (.int .i64 S) ∧ w'.cell? ⟨b1, 0, none⟩ = some (.int .i64 a1) ∧ w'.cell? ⟨b1, 1, none⟩ = some (.int .i64 a2) ∧ w'.cell? ⟨b2, 0, none⟩ = some (.int .i64 a1) ∧ w'.cell? ⟨b2, 1, none⟩ = some (.int .i64 a2) ∧ w'.cell? ⟨b3, 0, none⟩ = some (.int .i64 x1) ∧ w'.cell? ⟨b3, 1, none⟩ = some (.int .i64 x2) ∧ w'.cell? ⟨b4, 0, none⟩ = some (.int .i64 x1) ∧ w'.cell? ⟨b4, 1, none⟩ = some (.int .i64 x2) ∧ w'.cell? ⟨b5, 0, none⟩ = some (.int .i64 z1) ∧ w'.cell? ⟨b5, 1, none⟩ = some (.int .i64 z2) ∧ w'.cell? ⟨b6, 0, none⟩ = some (.int .i64 z1) ∧ w'.cell? ⟨b6, 1, none⟩ = some (.int .i64 z2)) (first | exact ⟨q00, q01, q10, q11, q20, q21, q30, q31, q40, q41, q50, q51, q60, q61⟩ | exact ⟨c00, c01, c10, c11, c20, c21, c30, c31, c40, c41, c50, c51, c60, c61⟩ | go_keep) (first
    | (go_at_call 13; (with_reducible refine (D1 _).mono ?_); rintro e wz ⟨rfl, xz⟩; replace Z := Z.trans xz; have q00 := (h0.ext Z).cells.1; have q01 := (h0.ext Z).cells.2; have q10 := (h1.ext Z).cells.1; have q11 := (h1.ext Z).cells.2; have q20 := (h2.ext Z).cells.1; have q21 := (h2.ext Z).cells.2; have q30 := (h3.ext Z).cells.1; have q31 := (h3.ext Z).cells.2; have q40 := (h4.ext Z).cells.1; have q41 := (h4.ext Z).cells.2; have q50 := (h5.ext Z).cells.1; have q51 := (h5.ext Z).cells.2; have q60 := (h6.ext Z).cells.1; have q61 := (h6.ext Z).cells.2)
    | (go_at_call 14; (with_reducible refine (D2 _).mono ?_); rintro e wz ⟨rfl, xz⟩; replace Z := Z.trans xz; have q00 := (h0.ext Z).cells.1; have q01 := (h0.ext Z).cells.2; have q10 := (h1.ext Z).cells.1; have q11 := (h1.ext Z).cells.2; have q20 := (h2.ext Z).cells.1; have q21 := (h2.ext Z).cells.2; have q30 := (h3.ext Z).cells.1; have q31 := (h3.ext Z).cells.2; have q40 := (h4.ext Z).cells.1; have q41 := (h4.ext Z).cells.2; have q50 := (h5.ext Z).cells.1; have q51 := (h5.ext Z).cells.2; have q60 := (h6.ext Z).cells.1; have q61 := (h6.ext Z).cells.2)
    | (go_at_call 15; (with_reducible refine (D3 _).mono ?_); rintro e wz ⟨rfl, xz⟩; replace Z := Z.trans xz; have q00 := (h0.ext Z).cells.1; have q01 := (h0.ext Z).cells.2; have q10 := (h1.ext Z).cells.1; have q11 := (h1.ext Z).cells.2; have q20 := (h2.ext Z).cells.1; have q21 := (h2.ext Z).cells.2; have q30 := (h3.ext Z).cells.1; have q31 := (h3.ext Z).cells.2; have q40 := (h4.ext Z).cells.1; have q41 := (h4.ext Z).cells.2; have q50 := (h5.ext Z).cells.1; have q51 := (h5.ext Z).cells.2; have q60 := (h6.ext Z).cells.1; have q61 := (h6.ext Z).cells.2)
    | (go_at_call 16; (with_reducible refine (D4 _).mono ?_); rintro e wz ⟨rfl, xz⟩; replace Z := Z.trans xz; have q00 := (h0.ext Z).cells.1; have q01 := (h0.ext Z).cells.2; have q10 := (h1.ext Z).cells.1; have q11 := (h1.ext Z).cells.2; have q20 := (h2.ext Z).cells.1; have q21 := (h2.ext Z).cells.2; have q30 := (h3.ext Z).cells.1; have q31 := (h3.ext Z).cells.2; have q40 := (h4.ext Z).cells.1; have q41 := (h4.ext Z).cells.2; have q50 := (h5.ext Z).cells.1; have q51 := (h5.ext Z).cells.2; have q60 := (h6.ext Z).cells.1; have q61 := (h6.ext Z).cells.2)
    | (go_at_call 15; (with_reducible refine (D5 _).mono ?_); rintro e wz ⟨rfl, xz⟩; replace Z := Z.trans xz; have q00 := (h0.ext Z).cells.1; have q01 := (h0.ext Z).cells.2; have q10 := (h1.ext Z).cells.1; have q11 := (h1.ext Z).cells.2; have q20 := (h2.ext Z).cells.1; have q21 := (h2.ext Z).cells.2; have q30 := (h3.ext Z).cells.1; have q31 := (h3.ext Z).cells.2; have q40 := (h4.ext Z).cells.1; have q41 := (h4.ext Z).cells.2; have q50 := (h5.ext Z).cells.1; have q51 := (h5.ext Z).cells.2; have q60 := (h6.ext Z).cells.1; have q61 := (h6.ext Z).cells.2)
    | (go_at_call 16; (with_reducible refine (D6 _).mono ?_); rintro e wz ⟨rfl, xz⟩; replace Z := Z.trans xz; have q00 := (h0.ext Z).cells.1; have q01 := (h0.ext Z).cells.2; have q10 := (h1.ext Z).cells.1; have q11 := (h1.ext Z).cells.2; have q20 := (h2.ext Z).cells.1; have q21 := (h2.ext Z).cells.2; have q30 := (h3.ext Z).cells.1; have q31 := (h3.ext Z).cells.2; have q40 := (h4.ext Z).cells.1; have q41 := (h4.ext Z).cells.2; have q50 := (h5.ext Z).cells.1; have q51 := (h5.ext Z).cells.2; have q60 := (h6.ext Z).cells.1; have q61 := (h6.ext Z).cells.2))
  all_goals
    go_wp2_with fail
    go_ret
    exact ⟨retB (by simp), hx.trans Z⟩

theorem mod25 (n : Int) : ∃ jj : Int, wrap64 ((IntKind.u64.wrap n).tmod 25) = jj ∧ 0 ≤ jj ∧ jj ≤ 24 := by
  have h0 : 0 ≤ IntKind.u64.wrap n := by rw [IntKind.wrap_u64]; omega
  have h1 := Int.tmod_lt_of_pos (IntKind.u64.wrap n) (show (0 : Int) < 25 by decide)
  have h2 : 0 ≤ (IntKind.u64.wrap n).tmod 25 := Int.tmod_nonneg _ h0
  refine ⟨_, rfl, ?_⟩
  rw [IntWalk.wrap64_in _ (by omega)]
  omega

theorem DecTells_main (s : ByteArray) (m n M S : Int) (w : World) (hs : s.size ≤ 9223372036854775807) (hm : I64 m) (hn : I64 n) (hM : I64 M) (hS : I64 S) :
    Calls Tryd.prog 3 #[.string s, .int .i64 m, .int .i64 n, .agg #[.int .i64 M, .int .i64 S]] w fun e w' => e = .returned (.bool true) ∧ Ext w w' := by
  by_cases hl : 100 < s.size
  · exact DecTells_far s m n M S w hs hl
  · obtain ⟨jj, HN, h0, h1⟩ := mod25 n
    have hj : I64 jj := by unfold I64; omega
    have C1 := fun w => DParse_is s hs w
    have C2 := fun w => Parse_any s w (by omega)
    have C3 := fun w => DNormZ m n w hm hn
    have C4 := fun w => RNormZ m n w hm hn
    have C5 := fun w => DNormZ m jj w hm hj
    have C6 := fun w => RNormZ m jj w hm hj
    have D1 := fun w => Good_any M S w hM hS
    have D2 := fun w => RGood_any M S w hM hS
    have D3 := fun w => Print_any M S w hM hS
    have D4 := fun w => RPrint_any M S w hM hS
    have hz : I64 (nzV m jj).1.1 ∧ I64 (nzV m jj).1.2 := by
      unfold nzV
      rw [if_neg (by omega)]
      obtain ⟨g, i⟩ := canZ_is_good m jj.toNat
      obtain ⟨⟨a, b⟩, _⟩ := good_of g
      exact ⟨i, by unfold I64; omega⟩
    have D5 := fun w => Print_any (nzV m jj).1.1 (nzV m jj).1.2 w hz.1 hz.2
    have D6 := fun w => RPrint_any (nzV m jj).1.1 (nzV m jj).1.2 w hz.1 hz.2
    generalize strN (printL (nzV m jj).1.1 (nzV m jj).1.2) = Q at *
    generalize strN (printL M S) = P at *
    generalize goodB M S = g at *
    generalize parseV s = V at *
    generalize nzV m n = X at *
    generalize nzV m jj = Z at *
    obtain ⟨⟨a1, a2⟩, e1, k1⟩ := V
    obtain ⟨⟨x1, x2⟩, xo⟩ := X
    obtain ⟨⟨z1, z2⟩, zo⟩ := Z
    exact DecTells_near s m n M S a1 a2 e1 k1 x1 x2 z1 z2 xo zo g P Q w (by omega) jj (Lib.hid HN) C1 C2 C3 C4 C5 C6 D1 D2 D3 D4 D5 D6
end Go.Proofs.YtiancppdcfahaaaDoor
