/- The law SumScaled answers true: the walk. -/
import Derived.Test.YthfihlapgoglaaaKnown
namespace Go.Proofs.Ythfihlapgoglaaa
open Go.RowKit

theorem dot_good (m : Int) (s : Nat) : goodB (dotM m s) (dotS m s) = true ∧ I64 (dotM m s) := canZ_is_good m s
theorem dot_int (m x : Int) (hm : I64 m) (h0 : 0 ≤ x) (h1 : x < 1000) (w : World) :
    Calls Try.prog 21 #[.int .i64 m, .int .i64 x] w fun e w' => e = .returned (.agg #[.int .i64 (dotM m x.toNat), .int .i64 (dotS m x.toNat)]) ∧ Ext w w' := by
  have := dot_any m x.toNat w hm (by omega)
  rw [show ((x.toNat : Nat) : Int) = x from by omega] at this
  exact this
theorem Norm_can (m : Int) (s : Nat) (w : World) (hm : I64 m) (hs : s < 1000) :
    Calls Try.prog 22 #[.int .i64 m, .int .i64 s] w fun e w' => e = .returned (.tuple #[.agg #[.int .i64 (canZ m s).1.1, .int .i64 (canZ m s).1.2], .bool (canZ m s).2]) ∧ Ext w w' := Norm_any m s w hm hs
theorem scM_range (M S s : Int) : I64 (scM M S s) := by
  unfold scM I64
  split
  · have := decMv_range (decide (M < 0)) (scN M S s) 0; omega
  · omega

/-- What 'was' is ahead of the round k. -/
def wasB (A S : Int) (k : Nat) : Bool := k == 0 || (scOk A S ((k : Int) - 1) || decide ((k : Int) - 1 < S))

set_option maxHeartbeats 20000000 in
set_option maxRecDepth 100000 in
theorem SumScaled_any (m x : Int) (w : World) (hm : I64 m) (h0 : 0 ≤ x) (h1 : x ≤ 255) :
    Calls Try.prog 7 #[.int .i64 m, .int .u8 x] w fun e w' => e = .returned (.bool true) ∧ Ext w w' := by
  obtain ⟨g, iA⟩ := dot_good m (x % 19).toNat
  have D := dot_int m (x % 19) hm (by omega) (by omega)
  generalize dotM m (x % 19).toNat = A at *
  generalize dotS m (x % 19).toNat = S at *
  obtain ⟨a1, a2, a3⟩ := good_range g
  have iS : I64 S := by unfold I64; omega
  have C : ∀ k : Int, -10 ≤ k → k ≤ 100 → ∀ w, Calls Try.prog 15 #[.agg #[.int .i64 A, .int .i64 S], .int .i64 k] w fun e w' => e = .returned (.tuple #[.int .i64 (scM A S k), .bool (scOk A S k)]) ∧ Ext w w' := fun k h1 h2 w => Scaled_any A S k w iA iS (by unfold I64; omega)
  go_enter Try.func7, Try.ntmps7
  go_wp2_with fail
  refine (known_any _).mono ?_
  rintro e w1 ⟨rfl, x1⟩
  go_wp2_with fail
  refine (D _).mono ?_
  rintro e w2 ⟨rfl, x2⟩
  go_wp2_with fail
  have hx := (x1.trans x2).alloc (.cells #[.int .i64 A, .int .i64 S] 25)
  have h5 : DecIn w2.heap.size A S (w2.alloc (.cells #[.int .i64 A, .int .i64 S] 25)) := heap_last _ _
  generalize w2.alloc (.cells #[.int .i64 A, .int .i64 S] 25) = W at *
  generalize w2.heap.size = b at *
  go_loopw [6, 7] (fun was k wr => ∃ k' : Nat, k = .int .i64 k' ∧ k' ≤ 19 ∧ was = .bool (wasB A S k') ∧ DecIn b A S wr ∧ Ext w wr) (fun _ k _ => 19 - (intOf k).toNat)
  case atStart => exact ⟨0, rfl, Nat.zero_le _, rfl, h5, hx⟩
  case round =>
    obtain ⟨k, rfl, hk, rfl, h5r, hxr⟩ := hrel
    obtain ⟨c0, c1⟩ := h5r.cells
    by_cases hlt : k < 19
    · have hw1 : wasB A S (k + 1) = (scOk A S k || decide ((k : Int) < S)) := by
        unfold wasB
        rw [show (((k + 1 : Nat) : Int) - 1) = (k : Int) from by omega]; simp
      by_cases hkS : (k : Int) < S
      · obtain ⟨e1, e2⟩ := sc_out (M := A) (S := S) (s := k) (.inl hkS)
        have Ck := C k (by omega) (by omega)
        rw [e1, e2] at Ck
        rw [e2, decide_eq_true hkS, Bool.or_true] at hw1
        have HW := Lib.hid hw1
        have Nk := fun w => Norm_can 0 k w (by unfold I64; omega) (by omega)
        have n1 : binOp .lss 3 (.int .i64 (k : Int)) (.int .i64 S) = pure (.bool true) := by
          simp only [go_sem]; rw [show decide ((k : Int) < S) = true from decide_eq_true (by omega)]
        have n2 : binOp .eql 3 (.int .i64 (k : Int)) (.int .i64 S) = pure (.bool false) := by
          simp only [go_sem]; rw [show ((k : Int) == S) = false from by simp; omega]
        have n3 : binOp .gtr 3 (.int .i64 (k : Int)) (.int .i64 S) = pure (.bool false) := by
          simp only [go_sem]; rw [show decide ((k : Int) > S) = false from decide_eq_false (by omega)]
        generalize wasB A S k = was at *
        generalize (canZ 0 k).1.1 = R1 at *
        generalize (canZ 0 k).1.2 = R2 at *
        generalize (canZ 0 k).2 = R3 at *
        clear hw1 e1 e2 C
        go_wp2_with fail
        refine (Ck _).mono ?_
        rintro e w3 ⟨rfl, x3⟩
        replace h5r := h5r.ext x3
        replace hxr := hxr.trans x3
        clear c0 c1
        obtain ⟨c0, c1⟩ := h5r.cells
        go_wp2_with fail
        refine (Nk _).mono ?_
        rintro e w4 ⟨rfl, x4⟩
        replace h5r := h5r.ext x4
        replace hxr := hxr.trans x4
        clear c0 c1
        obtain ⟨c0, c1⟩ := h5r.cells
        have hb4 : b < w4.heap.size := (Array.getElem?_eq_some_iff.1 h5r).1
        go_wp2_with fail
        go_roundw
        case rel => exact ⟨k + 1, rfl, by omega, vB HW.out.symm, h5r.ext ((Ext.refl _).alloc _), hxr.alloc _⟩
        case measure => simp only [intOf]; omega
      · by_cases hkE : S = (k : Int)
        · obtain ⟨e2, e1⟩ := sc_same g iA
          have e1' : scM A S (k : Int) = A := by rw [← hkE]; exact e1
          have e2' : scOk A S (k : Int) = true := by rw [← hkE]; exact e2
          have hcan : canZ A k = ((A, S), true) := by rw [← canZ_good g iA]; congr 1; omega
          have Ck := C k (by omega) (by omega)
          rw [e1', e2'] at Ck
          rw [e2', Bool.true_or] at hw1
          have HW := Lib.hid hw1
          have Nk := fun w => Norm_can A k w iA (by omega)
          rw [hcan] at Nk
          generalize wasB A S k = was at *
          clear hw1 e1 e2 e1' e2' hcan C
          have n1 : binOp .lss 3 (.int .i64 (k : Int)) (.int .i64 S) = pure (.bool false) := by
            simp only [go_sem]; rw [show decide ((k : Int) < S) = false from decide_eq_false (by omega)]
          have n2 : binOp .eql 3 (.int .i64 (k : Int)) (.int .i64 S) = pure (.bool true) := by
            simp only [go_sem]; rw [show ((k : Int) == S) = true from by simp; omega]
          have n3 : binOp .gtr 3 (.int .i64 (k : Int)) (.int .i64 S) = pure (.bool false) := by
            simp only [go_sem]; rw [show decide ((k : Int) > S) = false from decide_eq_false (by omega)]
          clear hkE hkS
          go_wp2_with fail
          refine (Ck _).mono ?_
          rintro e w3 ⟨rfl, x3⟩
          replace h5r := h5r.ext x3
          replace hxr := hxr.trans x3
          clear c0 c1
          obtain ⟨c0, c1⟩ := h5r.cells
          go_wp2_with fail
          refine (Nk _).mono ?_
          rintro e w4 ⟨rfl, x4⟩
          replace h5r := h5r.ext x4
          replace hxr := hxr.trans x4
          clear c0 c1
          obtain ⟨c0, c1⟩ := h5r.cells
          have hb4 : b < w4.heap.size := (Array.getElem?_eq_some_iff.1 h5r).1
          go_wp2_with fail
          go_roundw
          case rel => exact ⟨k + 1, rfl, by omega, vB HW.out.symm, h5r.ext ((Ext.refl _).alloc _), hxr.alloc _⟩
          case measure => simp only [intOf]; omega
        · by_cases ok : scOk A S k = true
          · have Ck := C k (by omega) (by omega)
            have hback := sc_back g iA k (by omega) (by omega) ok
            have Nk := fun w => Norm_can (scM A S k) k w (scM_range _ _ _) (by omega)
            rw [hback] at Nk
            rw [ok] at Ck
            rw [ok, Bool.true_or] at hw1
            have hwas : wasB A S k = true := by
              unfold wasB
              rw [sc_down g ((k : Int) - 1) (by omega) (by omega) (by rw [show (k : Int) - 1 + 1 = k from by omega]; exact ok)]
              simp
            rw [hwas]
            have HW := Lib.hid hw1
            generalize scM A S k = N at *
            clear hw1 C ok hback hwas
            have n1 : binOp .lss 3 (.int .i64 (k : Int)) (.int .i64 S) = pure (.bool false) := by
              simp only [go_sem]; rw [show decide ((k : Int) < S) = false from decide_eq_false (by omega)]
            have n2 : binOp .eql 3 (.int .i64 (k : Int)) (.int .i64 S) = pure (.bool false) := by
              simp only [go_sem]; rw [show ((k : Int) == S) = false from by simp; omega]
            have n3 : binOp .gtr 3 (.int .i64 (k : Int)) (.int .i64 S) = pure (.bool true) := by
              simp only [go_sem]; rw [show decide ((k : Int) > S) = true from decide_eq_true (by omega)]
            go_wp2_with fail
            refine (Ck _).mono ?_
            rintro e w3 ⟨rfl, x3⟩
            replace h5r := h5r.ext x3
            replace hxr := hxr.trans x3
            clear c0 c1
            obtain ⟨c0, c1⟩ := h5r.cells
            go_wp2_with fail
            refine (Nk _).mono ?_
            rintro e w4 ⟨rfl, x4⟩
            replace h5r := h5r.ext x4
            replace hxr := hxr.trans x4
            clear c0 c1
            obtain ⟨c0, c1⟩ := h5r.cells
            have hb4 : b < w4.heap.size := (Array.getElem?_eq_some_iff.1 h5r).1
            go_wp2_with fail
            go_roundw
            case rel => exact ⟨k + 1, rfl, by omega, vB HW.out.symm, h5r.ext ((Ext.refl _).alloc _), hxr.alloc _⟩
            case measure => simp only [intOf]; omega
          · have Ck := C k (by omega) (by omega)
            have Nk := fun w => Norm_can (scM A S k) k w (scM_range _ _ _) (by omega)
            replace ok : scOk A S k = false := by simpa using ok
            rw [ok] at Ck
            rw [ok, decide_eq_false hkS, Bool.false_or] at hw1
            have HW := Lib.hid hw1
            generalize wasB A S k = was at *
            generalize (canZ (scM A S k) k).1.1 = R1 at *
            generalize (canZ (scM A S k) k).1.2 = R2 at *
            generalize (canZ (scM A S k) k).2 = R3 at *
            generalize scM A S k = N at *
            clear hw1 C ok
            have n1 : binOp .lss 3 (.int .i64 (k : Int)) (.int .i64 S) = pure (.bool false) := by
              simp only [go_sem]; rw [show decide ((k : Int) < S) = false from decide_eq_false (by omega)]
            have n2 : binOp .eql 3 (.int .i64 (k : Int)) (.int .i64 S) = pure (.bool false) := by
              simp only [go_sem]; rw [show ((k : Int) == S) = false from by simp; omega]
            have n3 : binOp .gtr 3 (.int .i64 (k : Int)) (.int .i64 S) = pure (.bool true) := by
              simp only [go_sem]; rw [show decide ((k : Int) > S) = true from decide_eq_true (by omega)]
            go_wp2_with fail
            refine (Ck _).mono ?_
            rintro e w3 ⟨rfl, x3⟩
            replace h5r := h5r.ext x3
            replace hxr := hxr.trans x3
            clear c0 c1
            obtain ⟨c0, c1⟩ := h5r.cells
            go_wp2_with fail
            refine (Nk _).mono ?_
            rintro e w4 ⟨rfl, x4⟩
            replace h5r := h5r.ext x4
            replace hxr := hxr.trans x4
            clear c0 c1
            obtain ⟨c0, c1⟩ := h5r.cells
            have hb4 : b < w4.heap.size := (Array.getElem?_eq_some_iff.1 h5r).1
            go_wp2_with fail
            go_roundw
            case rel => exact ⟨k + 1, rfl, by omega, vB HW.out.symm, h5r.ext ((Ext.refl _).alloc _), hxr.alloc _⟩
            case measure => simp only [intOf]; omega
    · obtain rfl : k = 19 := by omega
      have Ca := C (-1) (by omega) (by omega)
      have Cb := C 19 (by omega) (by omega)
      rw [(sc_out (M := A) (S := S) (s := -1) (.inl (by omega))).1, (sc_out (M := A) (S := S) (s := -1) (.inl (by omega))).2] at Ca
      rw [(sc_out (M := A) (S := S) (s := 19) (.inr (by omega))).1, (sc_out (M := A) (S := S) (s := 19) (.inr (by omega))).2] at Cb
      generalize wasB A S 19 = was at *
      clear C
      go_wp2_with fail
      refine (Ca _).mono ?_
      rintro e w3 ⟨rfl, x3⟩
      replace h5r := h5r.ext x3
      replace hxr := hxr.trans x3
      clear c0 c1
      obtain ⟨c0, c1⟩ := h5r.cells
      go_wp2_with fail
      refine (Cb _).mono ?_
      rintro e w4 ⟨rfl, x4⟩
      go_wp2_with fail
      go_ret
      exact ⟨rfl, hxr.trans x4⟩
end Go.Proofs.Ythfihlapgoglaaa
