/- The walk of dec.Print. -/
import Derived.Test.YtiancppdcfahaaaDoorStampC
import Derived.Test.YtiancppdcfahaaaDoorConv
import Derived.Test.YtiancppdcfahaaaDoorRefB
namespace Go.Proofs.YtiancppdcfahaaaDoor
open Go.RowKit

/-- The bytes of a number's digits, the point ahead of the last S of them, put ahead of what is there. -/
def prL (m k S : Nat) (acc : List Nat) : List Nat :=
  if _h : 0 < m ∨ k ≤ S then prL (m / 10) (k + 1) S ((48 + m % 10) :: (if 0 < k ∧ k = S then 46 :: acc else acc)) else acc
termination_by m + (S + 1 - k)
decreasing_by omega
theorem prL_stop {m k S : Nat} (acc : List Nat) (h : ¬(0 < m ∨ k ≤ S)) : prL m k S acc = acc := by rw [prL, dif_neg h]
theorem prL_step {m k S : Nat} (acc : List Nat) (h : 0 < m ∨ k ≤ S) : prL m k S acc = prL (m / 10) (k + 1) S ((48 + m % 10) :: (if 0 < k ∧ k = S then 46 :: acc else acc)) := by rw [prL, dif_pos h]
/-- A decimal's text. -/
def printL (M S : Int) : List Nat := if goodB M S then (if M < 0 then 45 :: prL M.natAbs 0 S.toNat [] else prL M.natAbs 0 S.toNat []) else []
/-- Bytes as a text. -/
def strN (l : List Nat) : ByteArray := strOfNums (l.map (fun n : Nat => (n : Int)))

/-- A room of bytes in memory. -/
def ArrIn (b : Nat) (l : List Nat) (w : World) : Prop := w.heap[b]? = some (.cells (digC l).toArray 51 (0, 0))
theorem ArrIn.ext {b : Nat} {l : List Nat} {w w' : World} (h : ArrIn b l w) (x : Ext w w') : ArrIn b l w' := (x.heap (Array.getElem?_eq_some_iff.1 h).1).trans h
theorem ArrIn.cell {b : Nat} {l : List Nat} {w : World} (h : ArrIn b l w) (i : Nat) (hi : i < l.length) : w.cell? ⟨b, i, none⟩ = some (.int .u8 (l[i] : Int)) := by
  rw [Lib.cell_of_heap h]
  simp [digC, List.getElem?_eq_getElem hi]
theorem ArrIn.free {b : Nat} {l : List Nat} {w : World} (h : ArrIn b l w) (i : Nat) : w.frozen? ⟨b, i, none⟩ = false := Lib.frozen_of_heap h i
theorem ArrIn.put {b a d e : Nat} {acc : List Nat} {w : World} (h : ArrIn b (List.replicate (a + 1) e ++ acc) w) : ArrIn b (List.replicate a e ++ (d :: acc)) (w.setCell ⟨b, a, none⟩ (.int .u8 (d : Int))) := by
  have hl : digC (List.replicate a e ++ (d :: acc)) = (digC (List.replicate (a + 1) e ++ acc)).set a (.int .u8 (d : Int)) := by
    unfold digC
    rw [← List.map_set, List.replicate_succ', List.append_assoc, List.set_append_right _ _ (by simp)]
    simp
  unfold ArrIn at *
  rw [hl]
  simp [World.setCell, Array.getElem?_modify, h]

theorem slice24 (B a : Nat) (ha : a < 24) (W : World) : (Instr.sliceAt 51 (.pointer (some ⟨B, 0, none⟩)) (some (.int .i64 a)) none none).run Tryd.prog W = .ok (.slice (some ⟨B, a, none⟩) (24 - a) (24 - a)) W := by
  have hu : Tryd.prog.underlying 51 = some (.array (Tryd.prog.arrayLen 51) (Tryd.prog.elem 51)) := by kernel_rfl
  have hl : Tryd.prog.arrayLen 51 = 24 := by kernel_rfl
  have he : Tryd.prog.elem 51 = 5 := by kernel_rfl
  rw [run_sliceAt_array_l W 51 ⟨B, 0, none⟩ hu .i64 a (by omega) (by rw [hl]; omega), hl, he]
  obtain ⟨i, hi, hi3⟩ := Option.map_eq_some_iff.1 infoByte
  have hsz : i.size = 1 := by injection hi3 with _ h2; injection h2 with h2 _
  simp [sizeOf, typeInfo, hi, hsz, slicedAt, go_sem]
  omega
theorem conv24 {B a : Nat} {l : List Nat} {W : World} (h : ArrIn B (List.replicate a 0 ++ l) W) (hl : l.length = 24 - a) : (convert 47 9 (.slice (some ⟨B, a, none⟩) (24 - a) (24 - a))).run Tryd.prog W = .ok (.string (strN l)) W := by
  refine run_convert_bytes_arg _ _ _ under_bytes under_byte _ _ _ _ (l.map (fun n : Nat => (n : Int))) (by simpa using hl) ?_ _ under_string
  intro i hi
  rw [h.cell (a + i) (by simp; omega)]
  have hi2 : i < l.length := by omega
  simp [List.getElem_append_right, hi2]
theorem print_bound {m k N : Nat} (h : m * 10 ^ k ≤ N) (h0 : 0 < m) (hN : N < 10 ^ 19) : k < 19 := by
  have h1 : 10 ^ k ≤ N := Nat.le_trans (Nat.le_mul_of_pos_left _ h0) h
  exact (Nat.pow_lt_pow_iff_right (by omega)).1 (show 10 ^ k < 10 ^ 19 by omega)

set_option maxHeartbeats 8000000 in
set_option maxRecDepth 100000 in
theorem Print_any (M S : Int) (w : World) (hM : I64 M) (hS : I64 S) :
    Calls Tryd.prog 15 #[decV M S] w fun e w' => e = .returned (.string (strN (printL M S))) ∧ Ext w w' := by
  have G := fun w => Good_any M S w hM hS
  unfold decV at *
  have hx : Ext w (w.alloc (.cells #[.int .i64 M, .int .i64 S] 23)) := (Ext.refl _).alloc _
  have h1 : DecIn w.heap.size M S (w.alloc (.cells #[.int .i64 M, .int .i64 S] 23)) := heap_last _ _
  by_cases hg : goodB M S = true
  · rw [hg] at G
    obtain ⟨a1, a2, a3⟩ := good_range hg
    have hP : Hid (printL M S = if M < 0 then 45 :: prL M.natAbs 0 S.toNat [] else prL M.natAbs 0 S.toNat []) := Lib.hid (by unfold printL; rw [if_pos hg])
    clear hg
    unfold I64 at hM hS
    have hN : M.natAbs < 10 ^ 19 := by
      have : (9223372036854775808 : Nat) < 10 ^ 19 := by decide
      omega
    obtain ⟨s, rfl⟩ : ∃ s : Nat, S = (s : Int) := ⟨S.toNat, by omega⟩
    have habs : (if M < 0 then -M else M) = (M.natAbs : Int) := by split <;> omega
    by_cases hneg : M < 0
    · rw [if_pos hneg] at habs
      go_enter Tryd.func15, Tryd.ntmps15
      go_wp2_with fail
      refine (G _).mono ?_
      rintro e w1 ⟨rfl, x1⟩
      replace h1 := h1.ext x1
      replace hx := hx.trans x1
      obtain ⟨c0, c1⟩ := h1.cells
      have hlt : w.heap.size < w1.heap.size := (Array.getElem?_eq_some_iff.1 h1).1
      go_wp2_with fail
      clear c0 c1 x1
      have hA : ArrIn w1.heap.size (List.replicate 24 0 ++ []) (w1.alloc (.cells #[.int .u8 0, .int .u8 0, .int .u8 0, .int .u8 0, .int .u8 0, .int .u8 0, .int .u8 0, .int .u8 0, .int .u8 0, .int .u8 0, .int .u8 0, .int .u8 0, .int .u8 0, .int .u8 0, .int .u8 0, .int .u8 0, .int .u8 0, .int .u8 0, .int .u8 0, .int .u8 0, .int .u8 0, .int .u8 0, .int .u8 0, .int .u8 0] 51)) := heap_last _ _
      replace h1 := h1.ext ((Ext.refl w1).alloc (.cells #[.int .u8 0, .int .u8 0, .int .u8 0, .int .u8 0, .int .u8 0, .int .u8 0, .int .u8 0, .int .u8 0, .int .u8 0, .int .u8 0, .int .u8 0, .int .u8 0, .int .u8 0, .int .u8 0, .int .u8 0, .int .u8 0, .int .u8 0, .int .u8 0, .int .u8 0, .int .u8 0, .int .u8 0, .int .u8 0, .int .u8 0, .int .u8 0] 51))
      replace hx := hx.alloc (.cells #[.int .u8 0, .int .u8 0, .int .u8 0, .int .u8 0, .int .u8 0, .int .u8 0, .int .u8 0, .int .u8 0, .int .u8 0, .int .u8 0, .int .u8 0, .int .u8 0, .int .u8 0, .int .u8 0, .int .u8 0, .int .u8 0, .int .u8 0, .int .u8 0, .int .u8 0, .int .u8 0, .int .u8 0, .int .u8 0, .int .u8 0, .int .u8 0] 51)
      generalize w1.alloc (.cells #[.int .u8 0, .int .u8 0, .int .u8 0, .int .u8 0, .int .u8 0, .int .u8 0, .int .u8 0, .int .u8 0, .int .u8 0, .int .u8 0, .int .u8 0, .int .u8 0, .int .u8 0, .int .u8 0, .int .u8 0, .int .u8 0, .int .u8 0, .int .u8 0, .int .u8 0, .int .u8 0, .int .u8 0, .int .u8 0, .int .u8 0, .int .u8 0] 51) = W at *
      generalize w1.heap.size = B at *
      go_loopw [4, 5, 6] (fun x y z wr => ∃ (at' m' k' : Nat) (acc : List Nat), x = .int .i64 at' ∧ y = .int .i64 m' ∧ z = .int .i64 k' ∧ at' + acc.length = 24 ∧ (k' ≤ s → acc.length ≤ k') ∧ acc.length ≤ k' + 1 ∧ k' ≤ acc.length ∧ k' ≤ 19 ∧ m' ≤ M.natAbs ∧ Hid (m' * 10 ^ k' ≤ M.natAbs) ∧ Hid (prL m' k' s acc = prL M.natAbs 0 s []) ∧ ArrIn B (List.replicate at' 0 ++ acc) wr ∧ DecIn w.heap.size M s wr ∧ Ext w wr) (fun _ y z _ => (intOf y).toNat + (s + 1 - (intOf z).toNat))
      case atStart => exact ⟨24, M.natAbs, 0, [], rfl, rfl, rfl, rfl, by simp, by simp, by simp, by simp, Nat.le_refl _, Lib.hid (by omega), rfl, hA, h1, hx⟩
      case round =>
        obtain ⟨at', m', k', acc, rfl, rfl, rfl, l1, l0, l2, l7, l3, l4, l5, hpr, hA, h1, hx⟩ := hrel
        obtain ⟨c0, c1⟩ := h1.cells
        by_cases hc : 0 < m' ∨ k' ≤ s
        · have hk : k' < 19 := by
            rcases hc with h | h
            · exact print_bound l5.out h hN
            · omega
          obtain ⟨a, rfl⟩ : ∃ a, at' = a + 2 := ⟨at' - 2, by omega⟩
          have hpr2 := hpr.out
          rw [prL_step acc hc] at hpr2
          have l6 : Hid (m' / 10 * 10 ^ (k' + 1) ≤ M.natAbs) := Lib.hid (by
            rw [Nat.pow_succ, Nat.mul_comm (10 ^ k'), ← Nat.mul_assoc]
            exact Nat.le_trans (Nat.mul_le_mul_right _ (by omega)) l5.out)
          have hcell1 := hA.cell (a + 1) (by simp; omega)
          have hfree1 := hA.free (a + 1)
          have hcell0 := hA.cell a (by simp; omega)
          have hfree0 := hA.free a
          have hcast : ((48 + m' % 10 : Nat) : Int) = 48 + (m' : Int) % 10 := by omega
          have hBw : w.heap.size ≠ B := by omega
          generalize (List.replicate (a + 2) 0 ++ acc)[a + 1] = y1 at *
          generalize (List.replicate (a + 2) 0 ++ acc)[a] = y0 at *
          by_cases hp : 0 < k' ∧ k' = s
          · rw [if_pos hp] at hpr2
            have HP2 := Lib.hid hpr2
            have hA3 := (hA.put (d := 46)).put (d := 48 + m' % 10)
            rw [hcast] at hA3
            have HA := Lib.hid hA3
            clear hpr hpr2 l5 hA hA3
            by_cases hm0 : m' = 0
            · subst hm0
              go_wp2_with fail
              refine ⟨⟨a, 0, k' + 1, 48 :: 46 :: acc, vI (by omega), rfl, vI (by omega), by simp only [List.length_cons]; omega, fun h => by simp only [List.length_cons]; omega, by simp only [List.length_cons]; omega, by simp only [List.length_cons]; omega, by omega, by omega, l6, HP2, HA.out, (Below.heap_setCell _ _ _ _ hBw).trans ((Below.heap_setCell _ _ _ _ hBw).trans h1), ext_setCell (ext_setCell hx (Nat.le_of_lt hlt) _) (Nat.le_of_lt hlt) _⟩, ?_⟩
              simp only [intOf]; omega
            · clear hc
              go_wp2_with fail
              refine ⟨⟨a, m' / 10, k' + 1, (48 + m' % 10) :: 46 :: acc, vI (by omega), vI (by omega), vI (by omega), by simp only [List.length_cons]; omega, fun h => by simp only [List.length_cons]; omega, by simp only [List.length_cons]; omega, by simp only [List.length_cons]; omega, by omega, by omega, l6, HP2, HA.out, (Below.heap_setCell _ _ _ _ hBw).trans ((Below.heap_setCell _ _ _ _ hBw).trans h1), ext_setCell (ext_setCell hx (Nat.le_of_lt hlt) _) (Nat.le_of_lt hlt) _⟩, ?_⟩
              simp only [intOf]; omega
          · rw [if_neg hp] at hpr2
            have HP2 := Lib.hid hpr2
            have hA3 := hA.put (d := 48 + m' % 10)
            rw [hcast] at hA3
            have HA := Lib.hid hA3
            clear hpr hpr2 l5 hA hA3
            by_cases hm0 : m' = 0
            · subst hm0
              go_wp2_with fail
              all_goals
                refine ⟨⟨a + 1, 0, k' + 1, 48 :: acc, vI (by omega), rfl, vI (by omega), by simp only [List.length_cons]; omega, fun h => by simp only [List.length_cons]; omega, by simp only [List.length_cons]; omega, by simp only [List.length_cons]; omega, by omega, by omega, l6, HP2, HA.out, (Below.heap_setCell _ _ _ _ hBw).trans h1, ext_setCell hx (Nat.le_of_lt hlt) _⟩, ?_⟩
                simp only [intOf]; omega
            · clear hc
              go_wp2_with fail
              all_goals
                refine ⟨⟨a + 1, m' / 10, k' + 1, (48 + m' % 10) :: acc, vI (by omega), vI (by omega), vI (by omega), by simp only [List.length_cons]; omega, fun h => by simp only [List.length_cons]; omega, by simp only [List.length_cons]; omega, by simp only [List.length_cons]; omega, by omega, by omega, l6, HP2, HA.out, (Below.heap_setCell _ _ _ _ hBw).trans h1, ext_setCell hx (Nat.le_of_lt hlt) _⟩, ?_⟩
                simp only [intOf]; omega
        · have hpr2 := hpr.out
          rw [prL_stop acc hc] at hpr2
          have HP2 := Lib.hid hpr2
          obtain ⟨rfl, hk⟩ : m' = 0 ∧ s < k' := by omega
          obtain ⟨a, rfl⟩ : ∃ a, at' = a + 1 := ⟨at' - 1, by omega⟩
          clear hpr hpr2 l5 hc
          have hcell0 := hA.cell a (by simp; omega)
          have hfree0 := hA.free a
          have hA3 := hA.put (d := 45)
          generalize (List.replicate (a + 1) 0 ++ acc)[a] = y0 at *
          have cs := slice24 B a (by omega) (wr.setCell ⟨B, a, none⟩ (.int .u8 45))
          have cv : (convert 47 9 (.slice (some ⟨B, a, none⟩) (24 - a) (24 - a))).run Tryd.prog (wr.setCell ⟨B, a, none⟩ (.int .u8 45)) = .ok (.string (strN (45 :: acc))) (wr.setCell ⟨B, a, none⟩ (.int .u8 45)) := conv24 hA3 (by simp only [List.length_cons]; omega)
          clear hA hA3
          go_wp2_with fail
          go_ret
          rw [hP.out, if_pos hneg, Int.toNat_natCast, ← HP2.out]
          exact ⟨rfl, ext_setCell hx (Nat.le_of_lt hlt) _⟩
    · rw [if_neg hneg] at habs
      have HAB := Lib.hid habs
      clear habs
      go_enter Tryd.func15, Tryd.ntmps15
      go_wp2_with fail
      refine (G _).mono ?_
      rintro e w1 ⟨rfl, x1⟩
      replace h1 := h1.ext x1
      replace hx := hx.trans x1
      obtain ⟨c0, c1⟩ := h1.cells
      have hlt : w.heap.size < w1.heap.size := (Array.getElem?_eq_some_iff.1 h1).1
      go_wp2_with fail
      clear c0 c1 x1
      have hA : ArrIn w1.heap.size (List.replicate 24 0 ++ []) (w1.alloc (.cells #[.int .u8 0, .int .u8 0, .int .u8 0, .int .u8 0, .int .u8 0, .int .u8 0, .int .u8 0, .int .u8 0, .int .u8 0, .int .u8 0, .int .u8 0, .int .u8 0, .int .u8 0, .int .u8 0, .int .u8 0, .int .u8 0, .int .u8 0, .int .u8 0, .int .u8 0, .int .u8 0, .int .u8 0, .int .u8 0, .int .u8 0, .int .u8 0] 51)) := heap_last _ _
      replace h1 := h1.ext ((Ext.refl w1).alloc (.cells #[.int .u8 0, .int .u8 0, .int .u8 0, .int .u8 0, .int .u8 0, .int .u8 0, .int .u8 0, .int .u8 0, .int .u8 0, .int .u8 0, .int .u8 0, .int .u8 0, .int .u8 0, .int .u8 0, .int .u8 0, .int .u8 0, .int .u8 0, .int .u8 0, .int .u8 0, .int .u8 0, .int .u8 0, .int .u8 0, .int .u8 0, .int .u8 0] 51))
      replace hx := hx.alloc (.cells #[.int .u8 0, .int .u8 0, .int .u8 0, .int .u8 0, .int .u8 0, .int .u8 0, .int .u8 0, .int .u8 0, .int .u8 0, .int .u8 0, .int .u8 0, .int .u8 0, .int .u8 0, .int .u8 0, .int .u8 0, .int .u8 0, .int .u8 0, .int .u8 0, .int .u8 0, .int .u8 0, .int .u8 0, .int .u8 0, .int .u8 0, .int .u8 0] 51)
      generalize w1.alloc (.cells #[.int .u8 0, .int .u8 0, .int .u8 0, .int .u8 0, .int .u8 0, .int .u8 0, .int .u8 0, .int .u8 0, .int .u8 0, .int .u8 0, .int .u8 0, .int .u8 0, .int .u8 0, .int .u8 0, .int .u8 0, .int .u8 0, .int .u8 0, .int .u8 0, .int .u8 0, .int .u8 0, .int .u8 0, .int .u8 0, .int .u8 0, .int .u8 0] 51) = W at *
      generalize w1.heap.size = B at *
      go_loopw [4, 5, 6] (fun x y z wr => ∃ (at' m' k' : Nat) (acc : List Nat), x = .int .i64 at' ∧ y = .int .i64 m' ∧ z = .int .i64 k' ∧ at' + acc.length = 24 ∧ (k' ≤ s → acc.length ≤ k') ∧ acc.length ≤ k' + 1 ∧ k' ≤ acc.length ∧ k' ≤ 19 ∧ m' ≤ M.natAbs ∧ Hid (m' * 10 ^ k' ≤ M.natAbs) ∧ Hid (prL m' k' s acc = prL M.natAbs 0 s []) ∧ ArrIn B (List.replicate at' 0 ++ acc) wr ∧ DecIn w.heap.size M s wr ∧ Ext w wr) (fun _ y z _ => (intOf y).toNat + (s + 1 - (intOf z).toNat))
      case atStart => exact ⟨24, M.natAbs, 0, [], rfl, vI HAB.out, rfl, rfl, by simp, by simp, by simp, by simp, Nat.le_refl _, Lib.hid (by omega), rfl, hA, h1, hx⟩
      case round =>
        obtain ⟨at', m', k', acc, rfl, rfl, rfl, l1, l0, l2, l7, l3, l4, l5, hpr, hA, h1, hx⟩ := hrel
        obtain ⟨c0, c1⟩ := h1.cells
        by_cases hc : 0 < m' ∨ k' ≤ s
        · have hk : k' < 19 := by
            rcases hc with h | h
            · exact print_bound l5.out h hN
            · omega
          obtain ⟨a, rfl⟩ : ∃ a, at' = a + 2 := ⟨at' - 2, by omega⟩
          have hpr2 := hpr.out
          rw [prL_step acc hc] at hpr2
          have l6 : Hid (m' / 10 * 10 ^ (k' + 1) ≤ M.natAbs) := Lib.hid (by
            rw [Nat.pow_succ, Nat.mul_comm (10 ^ k'), ← Nat.mul_assoc]
            exact Nat.le_trans (Nat.mul_le_mul_right _ (by omega)) l5.out)
          have hcell1 := hA.cell (a + 1) (by simp; omega)
          have hfree1 := hA.free (a + 1)
          have hcell0 := hA.cell a (by simp; omega)
          have hfree0 := hA.free a
          have hcast : ((48 + m' % 10 : Nat) : Int) = 48 + (m' : Int) % 10 := by omega
          have hBw : w.heap.size ≠ B := by omega
          generalize (List.replicate (a + 2) 0 ++ acc)[a + 1] = y1 at *
          generalize (List.replicate (a + 2) 0 ++ acc)[a] = y0 at *
          by_cases hp : 0 < k' ∧ k' = s
          · rw [if_pos hp] at hpr2
            have HP2 := Lib.hid hpr2
            have hA3 := (hA.put (d := 46)).put (d := 48 + m' % 10)
            rw [hcast] at hA3
            have HA := Lib.hid hA3
            clear hpr hpr2 l5 hA hA3
            by_cases hm0 : m' = 0
            · subst hm0
              go_wp2_with fail
              refine ⟨⟨a, 0, k' + 1, 48 :: 46 :: acc, vI (by omega), rfl, vI (by omega), by simp only [List.length_cons]; omega, fun h => by simp only [List.length_cons]; omega, by simp only [List.length_cons]; omega, by simp only [List.length_cons]; omega, by omega, by omega, l6, HP2, HA.out, (Below.heap_setCell _ _ _ _ hBw).trans ((Below.heap_setCell _ _ _ _ hBw).trans h1), ext_setCell (ext_setCell hx (Nat.le_of_lt hlt) _) (Nat.le_of_lt hlt) _⟩, ?_⟩
              simp only [intOf]; omega
            · clear hc
              go_wp2_with fail
              refine ⟨⟨a, m' / 10, k' + 1, (48 + m' % 10) :: 46 :: acc, vI (by omega), vI (by omega), vI (by omega), by simp only [List.length_cons]; omega, fun h => by simp only [List.length_cons]; omega, by simp only [List.length_cons]; omega, by simp only [List.length_cons]; omega, by omega, by omega, l6, HP2, HA.out, (Below.heap_setCell _ _ _ _ hBw).trans ((Below.heap_setCell _ _ _ _ hBw).trans h1), ext_setCell (ext_setCell hx (Nat.le_of_lt hlt) _) (Nat.le_of_lt hlt) _⟩, ?_⟩
              simp only [intOf]; omega
          · rw [if_neg hp] at hpr2
            have HP2 := Lib.hid hpr2
            have hA3 := hA.put (d := 48 + m' % 10)
            rw [hcast] at hA3
            have HA := Lib.hid hA3
            clear hpr hpr2 l5 hA hA3
            by_cases hm0 : m' = 0
            · subst hm0
              go_wp2_with fail
              all_goals
                refine ⟨⟨a + 1, 0, k' + 1, 48 :: acc, vI (by omega), rfl, vI (by omega), by simp only [List.length_cons]; omega, fun h => by simp only [List.length_cons]; omega, by simp only [List.length_cons]; omega, by simp only [List.length_cons]; omega, by omega, by omega, l6, HP2, HA.out, (Below.heap_setCell _ _ _ _ hBw).trans h1, ext_setCell hx (Nat.le_of_lt hlt) _⟩, ?_⟩
                simp only [intOf]; omega
            · clear hc
              go_wp2_with fail
              all_goals
                refine ⟨⟨a + 1, m' / 10, k' + 1, (48 + m' % 10) :: acc, vI (by omega), vI (by omega), vI (by omega), by simp only [List.length_cons]; omega, fun h => by simp only [List.length_cons]; omega, by simp only [List.length_cons]; omega, by simp only [List.length_cons]; omega, by omega, by omega, l6, HP2, HA.out, (Below.heap_setCell _ _ _ _ hBw).trans h1, ext_setCell hx (Nat.le_of_lt hlt) _⟩, ?_⟩
                simp only [intOf]; omega
        · have hpr2 := hpr.out
          rw [prL_stop acc hc] at hpr2
          have HP2 := Lib.hid hpr2
          obtain ⟨rfl, hk⟩ : m' = 0 ∧ s < k' := by omega
          clear hpr hpr2 l5 hc
          have cs := slice24 B at' (by omega) wr
          have cv := conv24 hA (by omega)
          clear hA
          go_wp2_with fail
          go_ret
          rw [hP.out, if_neg (by omega), Int.toNat_natCast, ← HP2.out]
          exact ⟨rfl, hx⟩
  · have hP : Hid (printL M S = []) := Lib.hid (by unfold printL; rw [if_neg hg])
    rw [show goodB M S = false from by simpa using hg] at G
    clear hg
    go_enter Tryd.func15, Tryd.ntmps15
    go_wp2_with fail
    refine (G _).mono ?_
    rintro e w1 ⟨rfl, x1⟩
    go_wp2_with fail
    go_ret
    rw [hP.out]
    exact ⟨rfl, hx.trans x1⟩
end Go.Proofs.YtiancppdcfahaaaDoor
