/- The law StampTells answers true: the walk. -/
import Derived.Test.YtgbcaiedlmejfaaStampQ
import Derived.Test.YtgbcaiedlmejfaaStampBoundsW
namespace Go.Proofs.Ytgbcaiedlmejfaa
open Go.RowKit

/-- What Ms tells at any unit; what Of tells. -/
def msU (n v : Int) : Int × Bool := if v = 0 then (msV n 1000 1, msOk n 1000 1) else if v = 1 then (msV n 1 1, msOk n 1 1) else if v = 2 then (msV n 1 1000, msOk n 1 1000) else if v = 3 then (msV n 1 1000000, msOk n 1 1000000) else (0, false)
def ofU (n v : Int) : Int × Bool := if v = 0 then (ofV n 1000 1, ofOk n 1000 1) else if v = 1 then (ofV n 1 1, ofOk n 1 1) else if v = 2 then (ofV n 1 1000, ofOk n 1 1000) else if v = 3 then (ofV n 1 1000000, ofOk n 1 1000000) else (0, false)
theorem Ms_any (n v : Int) (w : World) (h : I64 n) :
    Calls Try.prog 16 #[.int .i64 n, .int .i64 v] w fun e w' => e = .returned (.tuple #[.int .i64 (msU n v).1, .bool (msU n v).2]) ∧ Ext w w' := by
  unfold msU
  by_cases h0 : v = 0
  · subst h0; exact Ms_0 n w h
  by_cases h1 : v = 1
  · subst h1; exact Ms_1 n w h
  by_cases h2 : v = 2
  · subst h2; exact Ms_2 n w h
  by_cases h3 : v = 3
  · subst h3; exact Ms_3 n w h
  rw [if_neg h0, if_neg h1, if_neg h2, if_neg h3]
  exact Ms_no n v w (by omega)
theorem Of_any (n v : Int) (w : World) (h : I64 n) :
    Calls Try.prog 18 #[.int .i64 n, .int .i64 v] w fun e w' => e = .returned (.tuple #[.int .i64 (ofU n v).1, .bool (ofU n v).2]) ∧ Ext w w' := by
  unfold ofU
  by_cases h0 : v = 0
  · subst h0; exact Of_0 n w h
  by_cases h1 : v = 1
  · subst h1; exact Of_1 n w h
  by_cases h2 : v = 2
  · subst h2; exact Of_2 n w h
  by_cases h3 : v = 3
  · subst h3; exact Of_3 n w h
  rw [if_neg h0, if_neg h1, if_neg h2, if_neg h3]
  exact Of_no n v w (by omega)
theorem RMs_any (n v : Int) (w : World) (h : I64 n) :
    Calls Try.prog 17 #[.int .i64 n, .int .i64 v] w fun e w' => e = .returned (.tuple #[.int .i64 (msU n v).1, .bool (msU n v).2]) ∧ Ext w w' := by
  unfold msU
  by_cases h0 : v = 0
  · subst h0; exact RMs_0 n w h
  by_cases h1 : v = 1
  · subst h1; exact RMs_1 n w h
  by_cases h2 : v = 2
  · subst h2; exact RMs_2 n w h
  by_cases h3 : v = 3
  · subst h3; exact RMs_3 n w h
  rw [if_neg h0, if_neg h1, if_neg h2, if_neg h3]
  exact RMs_no n v w ⟨h0, h1, h2, h3⟩
theorem ROf_any (n v : Int) (w : World) (h : I64 n) :
    Calls Try.prog 19 #[.int .i64 n, .int .i64 v] w fun e w' => e = .returned (.tuple #[.int .i64 (ofU n v).1, .bool (ofU n v).2]) ∧ Ext w w' := by
  unfold ofU
  by_cases h0 : v = 0
  · subst h0; exact ROf_0 n w h
  by_cases h1 : v = 1
  · subst h1; exact ROf_1 n w h
  by_cases h2 : v = 2
  · subst h2; exact ROf_2 n w h
  by_cases h3 : v = 3
  · subst h3; exact ROf_3 n w h
  rw [if_neg h0, if_neg h1, if_neg h2, if_neg h3]
  exact ROf_no n v w ⟨h0, h1, h2, h3⟩

/-- A row of three numbers in memory. -/
def RowIn (b : Nat) (x y z : Int) (w : World) : Prop := w.heap[b]? = some (.cells #[.int .i64 x, .int .i64 y, .int .i64 z] 2 (0, 0))
theorem RowIn.ext {b : Nat} {x y z : Int} {w w' : World} (h : RowIn b x y z w) (e : Ext w w') : RowIn b x y z w' := (e.heap (Array.getElem?_eq_some_iff.1 h).1).trans h
theorem RowIn.cells {b : Nat} {x y z : Int} {w : World} (h : RowIn b x y z w) : w.cell? ⟨b, 0, none⟩ = some (.int .i64 x) ∧ w.cell? ⟨b, 1, none⟩ = some (.int .i64 y) ∧ w.cell? ⟨b, 2, none⟩ = some (.int .i64 z) := ⟨by rw [Lib.cell_of_heap h]; rfl, by rw [Lib.cell_of_heap h]; rfl, by rw [Lib.cell_of_heap h]; rfl⟩

set_option maxHeartbeats 20000000 in
set_option maxRecDepth 100000 in
theorem StampTells_any (s : ByteArray) (n unit M S : Int) (w : World) (hs : s.size ≤ 9223372036854775807) (hn : I64 n) (_hu : I64 unit) (hM : I64 M) (hS : I64 S) :
    Calls Try.prog 3 #[.string s, .int .i64 n, .int .i64 unit, .agg #[.int .i64 M, .int .i64 S]] w fun e w' => e = .returned (.bool true) ∧ Ext w w' := by
  have hx : Ext w (w.alloc (.cells #[.int .i64 M, .int .i64 S] 23)) := (Ext.refl _).alloc _
  have h1 : DecIn w.heap.size M S (w.alloc (.cells #[.int .i64 M, .int .i64 S] 23)) := heap_last _ _
  by_cases h60 : s.size ≤ 60
  · have C1 := fun w => Int_any s w hs
    have C2 := fun w => RInt_any s w (by omega)
    have C3 := fun w => Uint_any s w hs
    have C4 := fun w => RUint_any s w (by omega)
    rw [wholeV_false] at C3
    generalize wholeV s true = V1 at *
    generalize uintL (byL s) = V2 at *
    obtain ⟨p1, p2, p3⟩ := V1
    obtain ⟨q1, q2, q3⟩ := V2
    have C5 := fun w => Seconds_any M S w hM hS
    have C6 := fun w => RSeconds_any M S w hM hS
    generalize (if (scOk M S 3 && timeB (scM M S 3)) = true then scM M S 3 else 0) = r1 at *
    generalize (scOk M S 3 && timeB (scM M S 3)) = r2 at *
    have C7 := fun w => Text_any n w hn
    have C8 := fun w => RTime_any n w hn
    generalize strN (textL n) = T at *
    unfold decV at C5 C6
    simp only [] at C1 C2 C3 C4
    have hm1 : I64 (n.tmod 100000) := by
      have h1 := Int.tmod_lt_of_pos n (show (0 : Int) < 100000 by decide)
      have h2 := Int.lt_tmod_of_pos n (show (0 : Int) < 100000 by decide)
      unfold I64; omega
    have hm2 : I64 (n.tmod 100000 * 1000000) := by
      have h1 := Int.tmod_lt_of_pos n (show (0 : Int) < 100000 by decide)
      have h2 := Int.lt_tmod_of_pos n (show (0 : Int) < 100000 by decide)
      unfold I64; omega
    have hmul : wrap64 (n.tmod 100000 * 1000000) = n.tmod 100000 * 1000000 := IntWalk.wrap64_in _ hm2
    obtain ⟨c0, c1⟩ := h1.cells
    go_enter Try.func3, Try.ntmps3
    go_wp2_with fail
    (with_reducible refine (known_any _).mono ?_)
    rintro e w0 ⟨rfl, x0⟩
    replace h1 := h1.ext x0
    replace hx := hx.trans x0
    clear c0 c1
    obtain ⟨c0, c1⟩ := h1.cells
    go_wp2_with fail
    (with_reducible refine (C1 _).mono ?_)
    rintro e w1 ⟨rfl, rfl⟩
    go_wp2_with fail
    (with_reducible refine (C2 _).mono ?_)
    rintro e w2 ⟨rfl, x2⟩
    replace h1 := h1.ext x2
    replace hx := hx.trans x2
    clear c0 c1
    obtain ⟨c0, c1⟩ := h1.cells
    go_wp2_with fail
    (with_reducible refine (C3 _).mono ?_)
    rintro e w3 ⟨rfl, rfl⟩
    go_wp2_with fail
    (with_reducible refine (C4 _).mono ?_)
    rintro e w4 ⟨rfl, x4⟩
    replace h1 := h1.ext x4
    replace hx := hx.trans x4
    clear c0 c1
    obtain ⟨c0, c1⟩ := h1.cells
    go_wp2_with fail
    (with_reducible refine (C5 _).mono ?_)
    rintro e w5 ⟨rfl, x5⟩
    replace h1 := h1.ext x5
    replace hx := hx.trans x5
    clear c0 c1
    obtain ⟨c0, c1⟩ := h1.cells
    go_wp2_with fail
    (with_reducible refine (C6 _).mono ?_)
    rintro e w6 ⟨rfl, x6⟩
    replace hx := hx.trans x6
    clear c0 c1 h1
    go_wp2_with fail
    (with_reducible refine (C7 _).mono ?_)
    rintro e w7 ⟨rfl, x7⟩
    replace hx := hx.trans x7
    go_wp2_with fail
    (with_reducible refine (C8 _).mono ?_)
    rintro e w8 ⟨rfl, x8⟩
    replace hx := hx.trans x8
    go_wp2_with fail
    clear C1 C2 C3 C4 C5 C6 C7 C8
    go_loopw [25] (fun x wr => ∃ u : Int, x = .int .i64 u ∧ -1 ≤ u ∧ u ≤ 6 ∧ Ext w8 wr) (fun x _ => (6 - intOf x).toNat)
    case atStart => exact ⟨-1, rfl, by omega, by omega, Ext.refl _⟩
    case round =>
      obtain ⟨u, rfl, u1, u2, xr⟩ := hrel
      by_cases hu6 : u < 6
      · by_cases hu5 : u = 5
        · subst hu5
          have hrow0 : RowIn wr.heap.size n (n.tmod 100000) (n.tmod 100000 * 1000000) (wr.alloc (.cells #[.int .i64 n, .int .i64 (n.tmod 100000), .int .i64 (n.tmod 100000 * 1000000)] 2)) := heap_last _ _
          go_wp2_with fail
          first | rw [hmul] | (rw [show IntKind.i64.wrap (n.tmod 100000 * 1000000) = n.tmod 100000 * 1000000 from hmul])
          go_loopw [137] (fun y wq => ∃ j : Nat, y = .int .i64 j ∧ j ≤ 3 ∧ Ext (wr.alloc (.cells #[.int .i64 n, .int .i64 (n.tmod 100000), .int .i64 (n.tmod 100000 * 1000000)] 2)) wq) (fun y _ => 3 - (intOf y).toNat)
          case atStart => exact ⟨0, rfl, by omega, Ext.refl _⟩
          case round =>
            obtain ⟨j, rfl, j3, xq⟩ := hrel
            have hrow := hrow0.ext xq
            obtain ⟨d0, d1, d2⟩ := hrow.cells
            have hj : j = 0 ∨ j = 1 ∨ j = 2 ∨ j = 3 := by omega
            rcases hj with rfl | rfl | rfl | rfl
            · have D1 := fun w => Ms_any n unit w hn
              have D2 := fun w => RMs_any n unit w hn
              have D3 := fun w => Of_any n unit w hn
              have D4 := fun w => ROf_any n unit w hn
              generalize msU n unit = V1 at *
              generalize ofU n unit = V2 at *
              obtain ⟨p1, p2⟩ := V1
              obtain ⟨q1, q2⟩ := V2
              simp only [] at D1 D2 D3 D4
              go_wp2_with fail
              (with_reducible refine (D1 _).mono ?_)
              rintro e y1 ⟨rfl, z1⟩
              go_wp2_with fail
              (with_reducible refine (D2 _).mono ?_)
              rintro e y2 ⟨rfl, z2⟩
              go_wp2_with fail
              (with_reducible refine (D3 _).mono ?_)
              rintro e y3 ⟨rfl, z3⟩
              go_wp2_with fail
              (with_reducible refine (D4 _).mono ?_)
              rintro e y4 ⟨rfl, z4⟩
              go_wp2_with fail
              go_roundw
              case rel => exact ⟨1, rfl, by omega, (((xq.trans z1).trans z2).trans z3).trans z4⟩
              case measure => simp only [intOf]; omega
            · have D1 := fun w => Ms_any (n.tmod 100000) unit w hm1
              have D2 := fun w => RMs_any (n.tmod 100000) unit w hm1
              have D3 := fun w => Of_any (n.tmod 100000) unit w hm1
              have D4 := fun w => ROf_any (n.tmod 100000) unit w hm1
              generalize msU (n.tmod 100000) unit = V1 at *
              generalize ofU (n.tmod 100000) unit = V2 at *
              obtain ⟨p1, p2⟩ := V1
              obtain ⟨q1, q2⟩ := V2
              simp only [] at D1 D2 D3 D4
              go_wp2_with fail
              (with_reducible refine (D1 _).mono ?_)
              rintro e y1 ⟨rfl, z1⟩
              go_wp2_with fail
              (with_reducible refine (D2 _).mono ?_)
              rintro e y2 ⟨rfl, z2⟩
              go_wp2_with fail
              (with_reducible refine (D3 _).mono ?_)
              rintro e y3 ⟨rfl, z3⟩
              go_wp2_with fail
              (with_reducible refine (D4 _).mono ?_)
              rintro e y4 ⟨rfl, z4⟩
              go_wp2_with fail
              go_roundw
              case rel => exact ⟨2, rfl, by omega, (((xq.trans z1).trans z2).trans z3).trans z4⟩
              case measure => simp only [intOf]; omega
            · have D1 := fun w => Ms_any (n.tmod 100000 * 1000000) unit w hm2
              have D2 := fun w => RMs_any (n.tmod 100000 * 1000000) unit w hm2
              have D3 := fun w => Of_any (n.tmod 100000 * 1000000) unit w hm2
              have D4 := fun w => ROf_any (n.tmod 100000 * 1000000) unit w hm2
              generalize msU (n.tmod 100000 * 1000000) unit = V1 at *
              generalize ofU (n.tmod 100000 * 1000000) unit = V2 at *
              obtain ⟨p1, p2⟩ := V1
              obtain ⟨q1, q2⟩ := V2
              simp only [] at D1 D2 D3 D4
              go_wp2_with fail
              (with_reducible refine (D1 _).mono ?_)
              rintro e y1 ⟨rfl, z1⟩
              go_wp2_with fail
              (with_reducible refine (D2 _).mono ?_)
              rintro e y2 ⟨rfl, z2⟩
              go_wp2_with fail
              (with_reducible refine (D3 _).mono ?_)
              rintro e y3 ⟨rfl, z3⟩
              go_wp2_with fail
              (with_reducible refine (D4 _).mono ?_)
              rintro e y4 ⟨rfl, z4⟩
              go_wp2_with fail
              go_roundw
              case rel => exact ⟨3, rfl, by omega, (((xq.trans z1).trans z2).trans z3).trans z4⟩
              case measure => simp only [intOf]; omega
            · go_wp2_with fail
              go_roundw
              case rel => exact ⟨6, rfl, by omega, by omega, xr.trans (((Ext.refl _).alloc _).trans xq)⟩
              case measure => simp only [intOf]; omega
        · skip
          have hrow0 : RowIn wr.heap.size n (n.tmod 100000) (n.tmod 100000 * 1000000) (wr.alloc (.cells #[.int .i64 n, .int .i64 (n.tmod 100000), .int .i64 (n.tmod 100000 * 1000000)] 2)) := heap_last _ _
          go_wp2_with fail
          first | rw [hmul] | (rw [show IntKind.i64.wrap (n.tmod 100000 * 1000000) = n.tmod 100000 * 1000000 from hmul])
          rw [show (u == 5) = false from by rw [beq_eq_false_iff_ne]; exact hu5]
          go_loopw [137] (fun y wq => ∃ j : Nat, y = .int .i64 j ∧ j ≤ 3 ∧ Ext (wr.alloc (.cells #[.int .i64 n, .int .i64 (n.tmod 100000), .int .i64 (n.tmod 100000 * 1000000)] 2)) wq) (fun y _ => 3 - (intOf y).toNat)
          case atStart => exact ⟨0, rfl, by omega, Ext.refl _⟩
          case round =>
            obtain ⟨j, rfl, j3, xq⟩ := hrel
            have hrow := hrow0.ext xq
            obtain ⟨d0, d1, d2⟩ := hrow.cells
            have hj : j = 0 ∨ j = 1 ∨ j = 2 ∨ j = 3 := by omega
            rcases hj with rfl | rfl | rfl | rfl
            · have D1 := fun w => Ms_any n u w hn
              have D2 := fun w => RMs_any n u w hn
              have D3 := fun w => Of_any n u w hn
              have D4 := fun w => ROf_any n u w hn
              generalize msU n u = V1 at *
              generalize ofU n u = V2 at *
              obtain ⟨p1, p2⟩ := V1
              obtain ⟨q1, q2⟩ := V2
              simp only [] at D1 D2 D3 D4
              go_wp2_with fail
              (with_reducible refine (D1 _).mono ?_)
              rintro e y1 ⟨rfl, z1⟩
              go_wp2_with fail
              (with_reducible refine (D2 _).mono ?_)
              rintro e y2 ⟨rfl, z2⟩
              go_wp2_with fail
              (with_reducible refine (D3 _).mono ?_)
              rintro e y3 ⟨rfl, z3⟩
              go_wp2_with fail
              (with_reducible refine (D4 _).mono ?_)
              rintro e y4 ⟨rfl, z4⟩
              go_wp2_with fail
              go_roundw
              case rel => exact ⟨1, rfl, by omega, (((xq.trans z1).trans z2).trans z3).trans z4⟩
              case measure => simp only [intOf]; omega
            · have D1 := fun w => Ms_any (n.tmod 100000) u w hm1
              have D2 := fun w => RMs_any (n.tmod 100000) u w hm1
              have D3 := fun w => Of_any (n.tmod 100000) u w hm1
              have D4 := fun w => ROf_any (n.tmod 100000) u w hm1
              generalize msU (n.tmod 100000) u = V1 at *
              generalize ofU (n.tmod 100000) u = V2 at *
              obtain ⟨p1, p2⟩ := V1
              obtain ⟨q1, q2⟩ := V2
              simp only [] at D1 D2 D3 D4
              go_wp2_with fail
              (with_reducible refine (D1 _).mono ?_)
              rintro e y1 ⟨rfl, z1⟩
              go_wp2_with fail
              (with_reducible refine (D2 _).mono ?_)
              rintro e y2 ⟨rfl, z2⟩
              go_wp2_with fail
              (with_reducible refine (D3 _).mono ?_)
              rintro e y3 ⟨rfl, z3⟩
              go_wp2_with fail
              (with_reducible refine (D4 _).mono ?_)
              rintro e y4 ⟨rfl, z4⟩
              go_wp2_with fail
              go_roundw
              case rel => exact ⟨2, rfl, by omega, (((xq.trans z1).trans z2).trans z3).trans z4⟩
              case measure => simp only [intOf]; omega
            · have D1 := fun w => Ms_any (n.tmod 100000 * 1000000) u w hm2
              have D2 := fun w => RMs_any (n.tmod 100000 * 1000000) u w hm2
              have D3 := fun w => Of_any (n.tmod 100000 * 1000000) u w hm2
              have D4 := fun w => ROf_any (n.tmod 100000 * 1000000) u w hm2
              generalize msU (n.tmod 100000 * 1000000) u = V1 at *
              generalize ofU (n.tmod 100000 * 1000000) u = V2 at *
              obtain ⟨p1, p2⟩ := V1
              obtain ⟨q1, q2⟩ := V2
              simp only [] at D1 D2 D3 D4
              go_wp2_with fail
              (with_reducible refine (D1 _).mono ?_)
              rintro e y1 ⟨rfl, z1⟩
              go_wp2_with fail
              (with_reducible refine (D2 _).mono ?_)
              rintro e y2 ⟨rfl, z2⟩
              go_wp2_with fail
              (with_reducible refine (D3 _).mono ?_)
              rintro e y3 ⟨rfl, z3⟩
              go_wp2_with fail
              (with_reducible refine (D4 _).mono ?_)
              rintro e y4 ⟨rfl, z4⟩
              go_wp2_with fail
              go_roundw
              case rel => exact ⟨3, rfl, by omega, (((xq.trans z1).trans z2).trans z3).trans z4⟩
              case measure => simp only [intOf]; omega
            · go_wp2_with fail
              go_roundw
              case rel => exact ⟨u + 1, rfl, by omega, by omega, xr.trans (((Ext.refl _).alloc _).trans xq)⟩
              case measure => simp only [intOf]; omega
      · obtain rfl : u = 6 := by omega
        go_wp2_with fail
        go_ret
        exact ⟨rfl, hx.trans xr⟩
  · obtain ⟨c0, c1⟩ := h1.cells
    go_enter Try.func3, Try.ntmps3
    go_wp2_with fail
    (with_reducible refine (known_any _).mono ?_)
    rintro e w0 ⟨rfl, x0⟩
    go_wp2_with fail
    go_ret
    exact ⟨rfl, hx.trans x0⟩
end Go.Proofs.Ytgbcaiedlmejfaa
