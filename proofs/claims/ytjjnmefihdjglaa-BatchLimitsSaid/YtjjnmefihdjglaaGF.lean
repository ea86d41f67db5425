/- Families: the words of kinds; what a series is called: the walks. -/
import Derived.Test.YtjjnmefihdjglaaPtG
namespace Go.Proofs.Ytjjnmefihdjglaa
open Go.RowKit

/-- A kind's word. -/
def wordOf (k : Int) : ByteArray := if k = 0 then ⟨#[117, 110, 107, 110, 111, 119, 110]⟩ else if k = 1 then ⟨#[103, 97, 117, 103, 101]⟩ else if k = 2 then ⟨#[99, 111, 117, 110, 116, 101, 114]⟩ else if k = 3 then ⟨#[104, 105, 115, 116, 111, 103, 114, 97, 109]⟩ else if k = 4 then ⟨#[115, 117, 109, 109, 97, 114, 121]⟩ else ⟨#[]⟩
/-- A word's kind. -/
def kindOf (s : ByteArray) : Int × Bool := if cmpS ⟨#[117, 110, 107, 110, 111, 119, 110]⟩ s = 0 then (0, true) else if cmpS ⟨#[103, 97, 117, 103, 101]⟩ s = 0 then (1, true) else if cmpS ⟨#[99, 111, 117, 110, 116, 101, 114]⟩ s = 0 then (2, true) else if cmpS ⟨#[104, 105, 115, 116, 111, 103, 114, 97, 109]⟩ s = 0 then (3, true) else if cmpS ⟨#[115, 117, 109, 109, 97, 114, 121]⟩ s = 0 then (4, true) else (0, false)

set_option maxRecDepth 100000 in
theorem kinds_any (w : World) :
    Calls Try.prog 34 #[] w fun e w' => e = .returned (.agg #[.string ⟨#[117, 110, 107, 110, 111, 119, 110]⟩, .string ⟨#[103, 97, 117, 103, 101]⟩, .string ⟨#[99, 111, 117, 110, 116, 101, 114]⟩, .string ⟨#[104, 105, 115, 116, 111, 103, 114, 97, 109]⟩, .string ⟨#[115, 117, 109, 109, 97, 114, 121]⟩]) ∧ Ext w w' := by
  go_enter Try.func34, Try.ntmps34
  go_wp2_with fail
  exact bodyPost_ret (v := .agg #[.string ⟨#[117, 110, 107, 110, 111, 119, 110]⟩, .string ⟨#[103, 97, 117, 103, 101]⟩, .string ⟨#[99, 111, 117, 110, 116, 101, 114]⟩, .string ⟨#[104, 105, 115, 116, 111, 103, 114, 97, 109]⟩, .string ⟨#[115, 117, 109, 109, 97, 114, 121]⟩]) (by simp [results, Try.results34, go_sem]) rfl ⟨rfl, (Ext.refl _).alloc _⟩
set_option maxHeartbeats 2000000 in
set_option maxRecDepth 100000 in
theorem Typed_any (k : Int) (w : World) :
    Calls Try.prog 17 #[.int .i64 k] w fun e w' => e = .returned (.string (wordOf k)) ∧ Ext w w' := by
  unfold wordOf
  by_cases h0 : k = 0
  · subst h0
    rw [if_pos rfl]
    go_enter Try.func17, Try.ntmps17
    go_wp2_with fail
    (with_reducible refine (kinds_any _).mono ?_)
    rintro e w1 ⟨rfl, x1⟩
    go_wp2_with fail
    go_ret
    exact ⟨rfl, x1.alloc _⟩
  · rw [if_neg h0]
    by_cases h1 : k = 1
    · subst h1
      rw [if_pos rfl]
      go_enter Try.func17, Try.ntmps17
      go_wp2_with fail
      (with_reducible refine (kinds_any _).mono ?_)
      rintro e w1 ⟨rfl, x1⟩
      go_wp2_with fail
      go_ret
      exact ⟨rfl, x1.alloc _⟩
    · rw [if_neg h1]
      by_cases h2 : k = 2
      · subst h2
        rw [if_pos rfl]
        go_enter Try.func17, Try.ntmps17
        go_wp2_with fail
        (with_reducible refine (kinds_any _).mono ?_)
        rintro e w1 ⟨rfl, x1⟩
        go_wp2_with fail
        go_ret
        exact ⟨rfl, x1.alloc _⟩
      · rw [if_neg h2]
        by_cases h3 : k = 3
        · subst h3
          rw [if_pos rfl]
          go_enter Try.func17, Try.ntmps17
          go_wp2_with fail
          (with_reducible refine (kinds_any _).mono ?_)
          rintro e w1 ⟨rfl, x1⟩
          go_wp2_with fail
          go_ret
          exact ⟨rfl, x1.alloc _⟩
        · rw [if_neg h3]
          by_cases h4 : k = 4
          · subst h4
            rw [if_pos rfl]
            go_enter Try.func17, Try.ntmps17
            go_wp2_with fail
            (with_reducible refine (kinds_any _).mono ?_)
            rintro e w1 ⟨rfl, x1⟩
            go_wp2_with fail
            go_ret
            exact ⟨rfl, x1.alloc _⟩
          · rw [if_neg h4]
            by_cases hn : k < 0
            · go_enter Try.func17, Try.ntmps17
              go_wp2_with fail
              (with_reducible refine (kinds_any _).mono ?_)
              rintro e w1 ⟨rfl, x1⟩
              go_wp2_with fail
              go_ret
              exact ⟨rfl, x1.alloc _⟩
            · have h5 : 5 ≤ k := by omega
              go_enter Try.func17, Try.ntmps17
              go_wp2_with fail
              (with_reducible refine (kinds_any _).mono ?_)
              rintro e w1 ⟨rfl, x1⟩
              go_wp2_with fail
              go_ret
              exact ⟨rfl, x1.alloc _⟩
set_option maxHeartbeats 4000000 in
set_option maxRecDepth 100000 in
theorem Kind_any (s : ByteArray) (w : World) :
    Calls Try.prog 16 #[.string s] w fun e w' => e = .returned (.tuple #[.int .i64 (kindOf s).1, .bool (kindOf s).2]) ∧ Ext w w' := by
  have s0 : (([117, 110, 107, 110, 111, 119, 110] : List UInt8) == s.toList) = decide (cmpS (⟨#[117, 110, 107, 110, 111, 119, 110]⟩) s = 0) := by
    have h := same_is (⟨#[117, 110, 107, 110, 111, 119, 110]⟩) s
    rw [show (⟨#[117, 110, 107, 110, 111, 119, 110]⟩ : ByteArray).toList = [117, 110, 107, 110, 111, 119, 110] from by rw [ByteArray.toList_eq]] at h
    exact h
  have s1 : (([103, 97, 117, 103, 101] : List UInt8) == s.toList) = decide (cmpS (⟨#[103, 97, 117, 103, 101]⟩) s = 0) := by
    have h := same_is (⟨#[103, 97, 117, 103, 101]⟩) s
    rw [show (⟨#[103, 97, 117, 103, 101]⟩ : ByteArray).toList = [103, 97, 117, 103, 101] from by rw [ByteArray.toList_eq]] at h
    exact h
  have s2 : (([99, 111, 117, 110, 116, 101, 114] : List UInt8) == s.toList) = decide (cmpS (⟨#[99, 111, 117, 110, 116, 101, 114]⟩) s = 0) := by
    have h := same_is (⟨#[99, 111, 117, 110, 116, 101, 114]⟩) s
    rw [show (⟨#[99, 111, 117, 110, 116, 101, 114]⟩ : ByteArray).toList = [99, 111, 117, 110, 116, 101, 114] from by rw [ByteArray.toList_eq]] at h
    exact h
  have s3 : (([104, 105, 115, 116, 111, 103, 114, 97, 109] : List UInt8) == s.toList) = decide (cmpS (⟨#[104, 105, 115, 116, 111, 103, 114, 97, 109]⟩) s = 0) := by
    have h := same_is (⟨#[104, 105, 115, 116, 111, 103, 114, 97, 109]⟩) s
    rw [show (⟨#[104, 105, 115, 116, 111, 103, 114, 97, 109]⟩ : ByteArray).toList = [104, 105, 115, 116, 111, 103, 114, 97, 109] from by rw [ByteArray.toList_eq]] at h
    exact h
  have s4 : (([115, 117, 109, 109, 97, 114, 121] : List UInt8) == s.toList) = decide (cmpS (⟨#[115, 117, 109, 109, 97, 114, 121]⟩) s = 0) := by
    have h := same_is (⟨#[115, 117, 109, 109, 97, 114, 121]⟩) s
    rw [show (⟨#[115, 117, 109, 109, 97, 114, 121]⟩ : ByteArray).toList = [115, 117, 109, 109, 97, 114, 121] from by rw [ByteArray.toList_eq]] at h
    exact h
  have x0 : ∀ w, (Instr.index 76 (.agg #[.string ⟨#[117, 110, 107, 110, 111, 119, 110]⟩, .string ⟨#[103, 97, 117, 103, 101]⟩, .string ⟨#[99, 111, 117, 110, 116, 101, 114]⟩, .string ⟨#[104, 105, 115, 116, 111, 103, 114, 97, 109]⟩, .string ⟨#[115, 117, 109, 109, 97, 114, 121]⟩]) (.int .i64 0)).run Try.prog w = .ok (.string ⟨#[117, 110, 107, 110, 111, 119, 110]⟩) w := fun w => by kernel_rfl
  have x1 : ∀ w, (Instr.index 76 (.agg #[.string ⟨#[117, 110, 107, 110, 111, 119, 110]⟩, .string ⟨#[103, 97, 117, 103, 101]⟩, .string ⟨#[99, 111, 117, 110, 116, 101, 114]⟩, .string ⟨#[104, 105, 115, 116, 111, 103, 114, 97, 109]⟩, .string ⟨#[115, 117, 109, 109, 97, 114, 121]⟩]) (.int .i64 1)).run Try.prog w = .ok (.string ⟨#[103, 97, 117, 103, 101]⟩) w := fun w => by kernel_rfl
  have x2 : ∀ w, (Instr.index 76 (.agg #[.string ⟨#[117, 110, 107, 110, 111, 119, 110]⟩, .string ⟨#[103, 97, 117, 103, 101]⟩, .string ⟨#[99, 111, 117, 110, 116, 101, 114]⟩, .string ⟨#[104, 105, 115, 116, 111, 103, 114, 97, 109]⟩, .string ⟨#[115, 117, 109, 109, 97, 114, 121]⟩]) (.int .i64 2)).run Try.prog w = .ok (.string ⟨#[99, 111, 117, 110, 116, 101, 114]⟩) w := fun w => by kernel_rfl
  have x3 : ∀ w, (Instr.index 76 (.agg #[.string ⟨#[117, 110, 107, 110, 111, 119, 110]⟩, .string ⟨#[103, 97, 117, 103, 101]⟩, .string ⟨#[99, 111, 117, 110, 116, 101, 114]⟩, .string ⟨#[104, 105, 115, 116, 111, 103, 114, 97, 109]⟩, .string ⟨#[115, 117, 109, 109, 97, 114, 121]⟩]) (.int .i64 3)).run Try.prog w = .ok (.string ⟨#[104, 105, 115, 116, 111, 103, 114, 97, 109]⟩) w := fun w => by kernel_rfl
  have x4 : ∀ w, (Instr.index 76 (.agg #[.string ⟨#[117, 110, 107, 110, 111, 119, 110]⟩, .string ⟨#[103, 97, 117, 103, 101]⟩, .string ⟨#[99, 111, 117, 110, 116, 101, 114]⟩, .string ⟨#[104, 105, 115, 116, 111, 103, 114, 97, 109]⟩, .string ⟨#[115, 117, 109, 109, 97, 114, 121]⟩]) (.int .i64 4)).run Try.prog w = .ok (.string ⟨#[115, 117, 109, 109, 97, 114, 121]⟩) w := fun w => by kernel_rfl
  obtain ⟨R, hR⟩ : ∃ R, kindOf s = R := ⟨_, rfl⟩
  rw [hR]
  unfold kindOf at hR
  by_cases c0 : cmpS (⟨#[117, 110, 107, 110, 111, 119, 110]⟩) s = 0
  · rw [decide_eq_true c0] at s0
    rw [if_pos c0] at hR
    have HV : (0 : Int) = R.1 ∧ true = R.2 := by rw [← hR]; exact ⟨rfl, rfl⟩
    clear c0
    replace HV := Lib.hid HV
    clear hR
    go_enter Try.func16, Try.ntmps16
    go_wp2_with fail
    (with_reducible refine (kinds_any _).mono ?_)
    rintro e w1 ⟨rfl, x1⟩
    go_wp2_with fail
    refine wp_loop_rounds 6 ?_
    rw [rounds_succ]
    go_wp2_with fail
    go_ret2
    exact ⟨ret2 (congrArg (Value.int .i64) HV.out.1) (congrArg Value.bool HV.out.2), x1⟩
  · rw [decide_eq_false c0] at s0
    rw [if_neg c0] at hR
    clear c0
    by_cases c1 : cmpS (⟨#[103, 97, 117, 103, 101]⟩) s = 0
    · rw [decide_eq_true c1] at s1
      rw [if_pos c1] at hR
      have HV : (1 : Int) = R.1 ∧ true = R.2 := by rw [← hR]; exact ⟨rfl, rfl⟩
      clear c1
      replace HV := Lib.hid HV
      clear hR
      go_enter Try.func16, Try.ntmps16
      go_wp2_with fail
      (with_reducible refine (kinds_any _).mono ?_)
      rintro e w1 ⟨rfl, x1⟩
      go_wp2_with fail
      refine wp_loop_rounds 6 ?_
      rw [rounds_succ]
      go_wp2_with fail
      rw [rounds_succ]
      go_wp2_with fail
      go_ret2
      exact ⟨ret2 (congrArg (Value.int .i64) HV.out.1) (congrArg Value.bool HV.out.2), x1⟩
    · rw [decide_eq_false c1] at s1
      rw [if_neg c1] at hR
      clear c1
      by_cases c2 : cmpS (⟨#[99, 111, 117, 110, 116, 101, 114]⟩) s = 0
      · rw [decide_eq_true c2] at s2
        rw [if_pos c2] at hR
        have HV : (2 : Int) = R.1 ∧ true = R.2 := by rw [← hR]; exact ⟨rfl, rfl⟩
        clear c2
        replace HV := Lib.hid HV
        clear hR
        go_enter Try.func16, Try.ntmps16
        go_wp2_with fail
        (with_reducible refine (kinds_any _).mono ?_)
        rintro e w1 ⟨rfl, x1⟩
        go_wp2_with fail
        refine wp_loop_rounds 6 ?_
        rw [rounds_succ]
        go_wp2_with fail
        rw [rounds_succ]
        go_wp2_with fail
        rw [rounds_succ]
        go_wp2_with fail
        go_ret2
        exact ⟨ret2 (congrArg (Value.int .i64) HV.out.1) (congrArg Value.bool HV.out.2), x1⟩
      · rw [decide_eq_false c2] at s2
        rw [if_neg c2] at hR
        clear c2
        by_cases c3 : cmpS (⟨#[104, 105, 115, 116, 111, 103, 114, 97, 109]⟩) s = 0
        · rw [decide_eq_true c3] at s3
          rw [if_pos c3] at hR
          have HV : (3 : Int) = R.1 ∧ true = R.2 := by rw [← hR]; exact ⟨rfl, rfl⟩
          clear c3
          replace HV := Lib.hid HV
          clear hR
          go_enter Try.func16, Try.ntmps16
          go_wp2_with fail
          (with_reducible refine (kinds_any _).mono ?_)
          rintro e w1 ⟨rfl, x1⟩
          go_wp2_with fail
          refine wp_loop_rounds 6 ?_
          rw [rounds_succ]
          go_wp2_with fail
          rw [rounds_succ]
          go_wp2_with fail
          rw [rounds_succ]
          go_wp2_with fail
          rw [rounds_succ]
          go_wp2_with fail
          go_ret2
          exact ⟨ret2 (congrArg (Value.int .i64) HV.out.1) (congrArg Value.bool HV.out.2), x1⟩
        · rw [decide_eq_false c3] at s3
          rw [if_neg c3] at hR
          clear c3
          by_cases c4 : cmpS (⟨#[115, 117, 109, 109, 97, 114, 121]⟩) s = 0
          · rw [decide_eq_true c4] at s4
            rw [if_pos c4] at hR
            have HV : (4 : Int) = R.1 ∧ true = R.2 := by rw [← hR]; exact ⟨rfl, rfl⟩
            clear c4
            replace HV := Lib.hid HV
            clear hR
            go_enter Try.func16, Try.ntmps16
            go_wp2_with fail
            (with_reducible refine (kinds_any _).mono ?_)
            rintro e w1 ⟨rfl, x1⟩
            go_wp2_with fail
            refine wp_loop_rounds 6 ?_
            rw [rounds_succ]
            go_wp2_with fail
            rw [rounds_succ]
            go_wp2_with fail
            rw [rounds_succ]
            go_wp2_with fail
            rw [rounds_succ]
            go_wp2_with fail
            rw [rounds_succ]
            go_wp2_with fail
            go_ret2
            exact ⟨ret2 (congrArg (Value.int .i64) HV.out.1) (congrArg Value.bool HV.out.2), x1⟩
          · rw [decide_eq_false c4] at s4
            rw [if_neg c4] at hR
            clear c4
            have HV : (0 : Int) = R.1 ∧ false = R.2 := by rw [← hR]; exact ⟨rfl, rfl⟩
            replace HV := Lib.hid HV
            clear hR
            go_enter Try.func16, Try.ntmps16
            go_wp2_with fail
            (with_reducible refine (kinds_any _).mono ?_)
            rintro e w1 ⟨rfl, x1⟩
            go_wp2_with fail
            refine wp_loop_rounds 6 ?_
            rw [rounds_succ]
            go_wp2_with fail
            rw [rounds_succ]
            go_wp2_with fail
            rw [rounds_succ]
            go_wp2_with fail
            rw [rounds_succ]
            go_wp2_with fail
            rw [rounds_succ]
            go_wp2_with fail
            rw [rounds_succ]
            go_wp2_with fail
            go_ret2
            exact ⟨ret2 (congrArg (Value.int .i64) HV.out.1) (congrArg Value.bool HV.out.2), x1⟩
end Go.Proofs.Ytjjnmefihdjglaa

namespace Go.Proofs.Ytjjnmefihdjglaa
open Go.RowKit

/-- What stands behind a family's name. -/
def tailOf (k r : Int) : ByteArray := if r = 1 then ⟨#[95, 98, 117, 99, 107, 101, 116]⟩ else if r = 3 then ⟨#[95, 99, 111, 117, 110, 116]⟩ else if r = 4 then ⟨#[95, 115, 117, 109]⟩ else if k = 2 then ⟨#[95, 116, 111, 116, 97, 108]⟩ else ⟨#[]⟩
/-- A series in memory; what was there stands. -/
def Ser (w : World) (b : Nat) (nm : ByteArray) (k : Int) (un he : ByteArray) (r : Int) (W : World) : Prop := Ext w W ∧ W.heap[b]? = some (.cells #[.string nm, .int .i64 k, .string un, .string he, .int .i64 r] 74 (0, 0))
theorem Ser.ext {w : World} {b : Nat} {nm : ByteArray} {k : Int} {un he : ByteArray} {r : Int} {W W' : World} (h : Ser w b nm k un he r W) (x : Ext W W') : Ser w b nm k un he r W' := ⟨h.1.trans x, (x.heap (Array.getElem?_eq_some_iff.1 h.2).1).trans h.2⟩
theorem Ser.cells {w : World} {b : Nat} {nm : ByteArray} {k : Int} {un he : ByteArray} {r : Int} {W : World} (h : Ser w b nm k un he r W) :
    W.cell? ⟨b, 0, none⟩ = some (.string nm) ∧ W.cell? ⟨b, 1, none⟩ = some (.int .i64 k) ∧ W.cell? ⟨b, 2, none⟩ = some (.string un) ∧ W.cell? ⟨b, 3, none⟩ = some (.string he) ∧ W.cell? ⟨b, 4, none⟩ = some (.int .i64 r) := by
  refine ⟨?_, ?_, ?_, ?_, ?_⟩ <;> (rw [Lib.cell_of_heap h.2]; rfl)

set_option maxHeartbeats 4000000 in
set_option maxRecDepth 100000 in
theorem is_any (nm : ByteArray) (k : Int) (un he : ByteArray) (r : Int) (w : World) :
    Calls Try.prog 32 #[.agg #[.string nm, .int .i64 k, .string un, .string he, .int .i64 r]] w fun e w' => e = .returned (.bool (decide (r ∈ rolesOf k))) ∧ Ext w w' := by
  have R1 := fun W => Roles_any _ k W rfl
  have R2 := fun v W h => Contains_any v (rolesOf k) r W (by unfold rolesOf; (repeat' split) <;> decide) h
  generalize decide (r ∈ rolesOf k) = b1 at *
  generalize rolesOf k = RL at *
  have hJ0 : Ser w w.heap.size nm k un he r (w.alloc (.cells #[.string nm, .int .i64 k, .string un, .string he, .int .i64 r] 74)) := ⟨(Ext.refl _).alloc _, heap_last _ _⟩
  go_enter Try.func32, Try.ntmps32
  go_wp2_with fail
  refine wp_region_held_drew (S := Ser w w.heap.size nm k un he r) (by kernel_rfl) (hJ0.ext (Ext.refl _).drew) (fun hHeld => ?_)
  refine wpAnyH_take (i := 0) (oi := ?oim1) (v := ?vm1) ?him1 (by kernel_rfl) (by kernel_rfl) (by kernel_rfl) ?hQm1 (Or.inl ⟨?hwm1, ?hym1⟩) hHeld ?restm1
  case him1 => simp only [List.getElem?_toArray, List.getElem?_cons_zero]; rfl
  case hQm1 => exact fun _ _ _ h => h
  case hwm1 => rfl
  case hym1 => (intro w9 hSw; obtain ⟨k0, k1, k2, k3, k4⟩ := hSw.cells; go_simp; (try with_reducible rfl))
  case restm1 =>
  try simp only [Act.put, List.setIfInBounds_toArray, List.set_cons_zero, List.set_cons_succ]
  refine wpAnyH_take (i := 1) (oi := ?oim2) (v := ?vm2) ?him2 (by kernel_rfl) (by kernel_rfl) (by kernel_rfl) ?hQm2 (Or.inl ⟨?hwm2, ?hym2⟩) hHeld ?restm2
  case him2 => simp only [List.getElem?_toArray, List.getElem?_cons_succ, List.getElem?_cons_zero]; rfl
  case hQm2 => exact fun _ _ _ h => h
  case hwm2 => rfl
  case hym2 => (intro w9 hSw; obtain ⟨k0, k1, k2, k3, k4⟩ := hSw.cells; go_simp; (try with_reducible rfl))
  case restm2 =>
  try simp only [Act.put, List.setIfInBounds_toArray, List.set_cons_zero, List.set_cons_succ]
  refine wpAnyH_take (i := 2) (oi := ?oim3) (v := ?vm3) ?him3 (by kernel_rfl) (by kernel_rfl) (by kernel_rfl) ?hQm3 (Or.inl ⟨?hwm3, ?hym3⟩) hHeld ?restm3
  case him3 => simp only [List.getElem?_toArray, List.getElem?_cons_succ, List.getElem?_cons_zero]; rfl
  case hQm3 => exact fun _ _ _ h => h
  case hwm3 => rfl
  case hym3 => (intro w9 hSw; obtain ⟨k0, k1, k2, k3, k4⟩ := hSw.cells; go_simp; (try with_reducible rfl))
  case restm3 =>
  try simp only [Act.put, List.setIfInBounds_toArray, List.set_cons_zero, List.set_cons_succ]
  refine wpAnyH_take (i := 4) (oi := ?oim4) (v := ?vm4) ?him4 (by kernel_rfl) (by kernel_rfl) (by kernel_rfl) ?hQm4 (Or.inl ⟨?hwm4, ?hym4⟩) hHeld ?restm4
  case him4 => simp only [List.getElem?_toArray, List.getElem?_cons_succ, List.getElem?_cons_zero]; rfl
  case hQm4 => exact fun _ _ _ h => h
  case hwm4 => rfl
  case hym4 => (intro w9 hSw; obtain ⟨k0, k1, k2, k3, k4⟩ := hSw.cells; go_simp; (try with_reducible rfl))
  case restm4 =>
  try simp only [Act.put, List.setIfInBounds_toArray, List.set_cons_zero, List.set_cons_succ]
  refine wpAnyH_take (i := 5) (oi := ?oim5) (v := ?vm5) ?him5 (by kernel_rfl) (by kernel_rfl) (by kernel_rfl) ?hQm5 (Or.inl ⟨?hwm5, ?hym5⟩) hHeld ?restm5
  case him5 => simp only [List.getElem?_toArray, List.getElem?_cons_succ, List.getElem?_cons_zero]; rfl
  case hQm5 => exact fun _ _ _ h => h
  case hwm5 => rfl
  case hym5 => (intro w9 hSw; obtain ⟨k0, k1, k2, k3, k4⟩ := hSw.cells; go_simp; (try with_reducible rfl))
  case restm5 =>
  try simp only [Act.put, List.setIfInBounds_toArray, List.set_cons_zero, List.set_cons_succ]
  refine wpAnyH_ready (rs := [3]) (by kernel_rfl) (by simp) (AllReadyH.cons (o := ?om6) ?im6 (fun K hK => ?_) AllReadyH.nil)
  case im6 => simp only [List.getElem?_toArray, List.getElem?_cons_succ, List.getElem?_cons_zero]; rfl
  rw [if_pos (by rfl)]
  go_simp
  go_at_call 62
  (with_reducible refine (R1 _).mono ?_)
  rintro e wz ⟨⟨u, rfl, hU⟩, xz⟩
  refine hK.out _ _ (hHeld.ext xz) (fun hHeld => ?_)
  clear hK K
  try simp only [List.setIfInBounds_toArray, List.set_cons_zero, List.set_cons_succ]
  refine wpAnyH_ready (rs := [6]) (by kernel_rfl) (by simp) (AllReadyH.cons (o := ?om7) ?im7 (fun K hK => ?_) AllReadyH.nil)
  case im7 => simp only [List.getElem?_toArray, List.getElem?_cons_succ, List.getElem?_cons_zero]; rfl
  rw [if_pos (by rfl)]
  go_simp
  go_at_call 61
  (with_reducible refine (R2 _ _ ?hc).mono ?_)
  case hc => exact hU
  rintro e wz ⟨rfl, xz⟩
  refine hK.out _ _ (hHeld.ext xz) (fun hHeld => ?_)
  clear hK K
  try simp only [List.setIfInBounds_toArray, List.set_cons_zero, List.set_cons_succ]
  refine wpAnyH_take (i := 7) (oi := ?oim8) (v := ?vm8) ?him8 (by kernel_rfl) (by kernel_rfl) (by kernel_rfl) ?hQm8 (Or.inl ⟨?hwm8, ?hym8⟩) hHeld ?restm8
  case him8 => simp only [List.getElem?_toArray, List.getElem?_cons_succ, List.getElem?_cons_zero]; rfl
  case hQm8 => exact fun _ _ _ h => h
  case hwm8 => rfl
  case hym8 => (intro w9 hSw; obtain ⟨k0, k1, k2, k3, k4⟩ := hSw.cells; go_simp; (try with_reducible rfl))
  case restm8 =>
  try simp only [Act.put, List.setIfInBounds_toArray, List.set_cons_zero, List.set_cons_succ]
  refine wpAnyH_done (by kernel_rfl) ?_ _
  have xf := hHeld.1
  go_wp2_with fail
  go_ret
  exact ⟨rfl, xf⟩

set_option maxHeartbeats 4000000 in
set_option maxRecDepth 100000 in
theorem name_any (nm : ByteArray) (k : Int) (un he : ByteArray) (r : Int) (w : World) (hn : nm.size < 1000000) :
    Calls Try.prog 33 #[.agg #[.string nm, .int .i64 k, .string un, .string he, .int .i64 r]] w fun e w' => e = .returned (.string (nm ++ tailOf k r)) ∧ Ext w w' := by
  have hJ : Ser w w.heap.size nm k un he r (w.alloc (.cells #[.string nm, .int .i64 k, .string un, .string he, .int .i64 r] 74)) := ⟨(Ext.refl _).alloc _, heap_last _ _⟩
  obtain ⟨k0, k1, k2, k3, k4⟩ := hJ.cells
  obtain ⟨R, hR⟩ : ∃ R, nm ++ tailOf k r = R := ⟨_, rfl⟩
  rw [hR]
  unfold tailOf at hR
  clear hJ k0 k1 k2 k3 k4
  by_cases h1 : r = 1
  · subst h1
    have HV : Hid (R = nm ++ ⟨#[95, 98, 117, 99, 107, 101, 116]⟩) := Lib.hid (by rw [← hR]; simp)
    clear hR
    go_enter Try.func33, Try.ntmps33
    go_wp2_with fail
    go_ret
    exact ⟨ret1 (congrArg Value.string HV.out.symm), (Ext.refl _).alloc _⟩
  · by_cases h3 : r = 3
    · subst h3
      clear h1
      have HV : Hid (R = nm ++ ⟨#[95, 99, 111, 117, 110, 116]⟩) := Lib.hid (by rw [← hR]; simp)
      clear hR
      go_enter Try.func33, Try.ntmps33
      go_wp2_with fail
      go_ret
      exact ⟨ret1 (congrArg Value.string HV.out.symm), (Ext.refl _).alloc _⟩
    · by_cases h4 : r = 4
      · subst h4
        clear h1 h3
        have HV : Hid (R = nm ++ ⟨#[95, 115, 117, 109]⟩) := Lib.hid (by rw [← hR]; simp)
        clear hR
        go_enter Try.func33, Try.ntmps33
        go_wp2_with fail
        go_ret
        exact ⟨ret1 (congrArg Value.string HV.out.symm), (Ext.refl _).alloc _⟩
      · by_cases hk : k = 2
        · subst hk
          have HV : Hid (R = nm ++ ⟨#[95, 116, 111, 116, 97, 108]⟩) := Lib.hid (by rw [← hR]; simp [h1, h3, h4])
          clear hR
          go_enter Try.func33, Try.ntmps33
          go_wp2_with fail
          go_ret
          exact ⟨ret1 (congrArg Value.string HV.out.symm), (Ext.refl _).alloc _⟩
        · have HV : Hid (R = nm) := Lib.hid (by rw [← hR]; simp [h1, h3, h4, hk, show nm ++ (⟨#[]⟩ : ByteArray) = nm from by show nm ++ ByteArray.empty = nm; simp])
          clear hR
          go_enter Try.func33, Try.ntmps33
          go_wp2_with fail
          go_ret
          exact ⟨ret1 (congrArg Value.string HV.out.symm), (Ext.refl _).alloc _⟩

set_option maxHeartbeats 4000000 in
set_option maxRecDepth 100000 in
theorem Series_any (nm : ByteArray) (k : Int) (un he : ByteArray) (r : Int) (w : World) (hn : nm.size < 1000000) :
    Calls Try.prog 13 #[.agg #[.string nm, .int .i64 k, .string un, .string he], .int .i64 r] w fun e w' => e = .returned (.tuple #[.string (if r ∈ rolesOf k then nm ++ tailOf k r else ⟨#[]⟩), .bool (decide (r ∈ rolesOf k))]) ∧ Ext w w' := by
  have C1 := fun W => is_any nm k un he r W
  have C2 := fun W => name_any nm k un he r W hn
  generalize nm ++ tailOf k r = R at *
  by_cases h : r ∈ rolesOf k
  · rw [if_pos h, decide_eq_true h]
    rw [decide_eq_true h] at C1
    clear h
    have hJ0 : Ser w (w.heap.size + 1) nm k un he r ((w.alloc (.cells #[.string nm, .int .i64 k, .string un, .string he] 23)).alloc (.cells #[.string nm, .int .i64 k, .string un, .string he, .int .i64 r] 74)) := ⟨((Ext.refl _).alloc _).alloc _, heap_at2b _ _ _⟩
    go_enter Try.func13, Try.ntmps13
    go_wp2_with fail
    (with_reducible refine (C1 _).mono ?_)
    rintro e w1 ⟨rfl, x1⟩
    replace hJ0 := hJ0.ext x1
    obtain ⟨k0, k1, k2, k3, k4⟩ := hJ0.cells
    go_wp2_with fail
    (with_reducible refine (C2 _).mono ?_)
    rintro e w2 ⟨rfl, x2⟩
    go_wp2_with fail
    go_ret2
    exact ⟨rfl, hJ0.1.trans x2⟩
  · rw [if_neg h, decide_eq_false h]
    rw [decide_eq_false h] at C1
    clear h C2
    have hJ0 : Ser w (w.heap.size + 1) nm k un he r ((w.alloc (.cells #[.string nm, .int .i64 k, .string un, .string he] 23)).alloc (.cells #[.string nm, .int .i64 k, .string un, .string he, .int .i64 r] 74)) := ⟨((Ext.refl _).alloc _).alloc _, heap_at2b _ _ _⟩
    go_enter Try.func13, Try.ntmps13
    go_wp2_with fail
    (with_reducible refine (C1 _).mono ?_)
    rintro e w1 ⟨rfl, x1⟩
    go_wp2_with fail
    go_ret2
    exact ⟨rfl, hJ0.1.trans x1⟩
end Go.Proofs.Ytjjnmefihdjglaa

namespace Go.Proofs.Ytjjnmefihdjglaa
open Go.RowKit

/-- A word's kind has that word. -/
theorem kindOf_word (s : ByteArray) : ((kindOf s).2 = true → wordOf (kindOf s).1 = s) ∧ ((kindOf s).2 = false → (kindOf s).1 = 0) ∧ (-1 ≤ (kindOf s).1 ∧ (kindOf s).1 ≤ 4) := by
  unfold kindOf
  repeat' split
  all_goals first
    | (refine ⟨fun _ => ?_, fun h => (by cases h), by decide⟩; exact (cmpS_zero _ _).1 (by assumption))
    | exact ⟨fun h => (by cases h), fun _ => rfl, by decide⟩
theorem kindOf_wordOf (k : Int) (h0 : 0 ≤ k) (h4 : k ≤ 4) : kindOf (wordOf k) = (k, true) := by
  rcases (show k = 0 ∨ k = 1 ∨ k = 2 ∨ k = 3 ∨ k = 4 from by omega) with rfl | rfl | rfl | rfl | rfl <;> decide
theorem wordOf_none (k : Int) : (wordOf k = ⟨#[]⟩) ↔ (k < 0 ∨ 4 < k) := by
  unfold wordOf
  constructor
  · intro h
    by_cases h5 : k < 0 ∨ 4 < k
    · exact h5
    · exfalso
      rcases (show k = 0 ∨ k = 1 ∨ k = 2 ∨ k = 3 ∨ k = 4 from by omega) with rfl | rfl | rfl | rfl | rfl <;> simp at h
  · intro h
    rw [if_neg (by omega), if_neg (by omega), if_neg (by omega), if_neg (by omega), if_neg (by omega)]
theorem wordEmpty (k : Int) : (wordOf k).toList.isEmpty = decide (k < 0 ∨ 4 < k) := by
  by_cases h : k < 0 ∨ 4 < k
  · rw [decide_eq_true h, (wordOf_none k).2 h, ByteArray.toList_eq]; rfl
  · rw [decide_eq_false h]
    rcases (show k = 0 ∨ k = 1 ∨ k = 2 ∨ k = 3 ∨ k = 4 from by omega) with rfl | rfl | rfl | rfl | rfl <;> (rw [ByteArray.toList_eq]; decide)

set_option maxHeartbeats 8000000 in
set_option maxRecDepth 100000 in
theorem FamilyKinds_of (K : ∀ w, Calls Try.prog 8 #[] w fun e w' => e = .returned (.bool true) ∧ Ext w w') (kind : Int) (s : ByteArray) (w : World) (hs : s.size ≤ 9223372036854775807) :
    Calls Try.prog 5 #[.int .i64 kind, .string s] w fun e w' => e = .returned (.bool true) ∧ Ext w w' := by
  have T := fun k W => Typed_any k W
  have KD := fun x W => Kind_any x W
  go_enter Try.func5, Try.ntmps5
  go_wp2_with fail
  (with_reducible refine (K _).mono ?_)
  rintro e w1 ⟨rfl, x1⟩
  by_cases h100 : 100 < s.size
  · go_wp2_with fail
    go_ret
    exact ⟨rfl, x1⟩
  go_wp2_with fail
  go_loopw [5] (fun i wr => ∃ k : Nat, i = .int .i64 k ∧ k ≤ 5 ∧ Ext w wr) (fun i _ => 5 - (intOf i).toNat)
  case atStart => exact ⟨0, rfl, by omega, x1⟩
  case round =>
    obtain ⟨k, rfl, hk, xr⟩ := hrel
    by_cases hlt : k < 5
    · have e1 := kindOf_wordOf (k : Int) (by omega) (by omega)
      have KK := KD (wordOf (k : Int))
      rw [e1] at KK
      clear e1
      have hk4 : (k : Int) ≤ 4 := by omega
      go_wp2_with fail
      (with_reducible refine (T _ _).mono ?_)
      rintro e w2 ⟨rfl, x2⟩
      go_wp2_with fail
      (with_reducible refine (KK _).mono ?_)
      rintro e w3 ⟨rfl, x3⟩
      go_wp2_with fail
      go_roundw
      case rel => exact ⟨k + 1, rfl, hlt, (xr.trans x2).trans x3⟩
      case measure => simp only [intOf]; omega
    · obtain ⟨p1, p2, p3⟩ := kindOf_word s
      have KK := KD s
      obtain ⟨q, hq⟩ : ∃ q, kindOf s = q := ⟨_, rfl⟩
      rw [hq] at KK p1 p2 p3
      obtain ⟨q1, q2⟩ := q
      dsimp only at KK p1 p2 p3
      have hk5 : ¬ (k : Int) ≤ 4 := by omega
      have we := wordEmpty kind
      clear hq T KD hk
      by_cases ha : kind < 0
      · rw [decide_eq_true (.inl ha)] at we
        cases q2
        · obtain rfl := p2 rfl
          clear p1 p2
          go_wp2_with fail
          (with_reducible refine (KK _).mono ?_)
          rintro e w2 ⟨rfl, x2⟩
          go_wp2_with fail
          (with_reducible refine (Typed_any _ _).mono ?_)
          rintro e w3 ⟨rfl, x3⟩
          go_wp2_with fail
          go_ret
          exact ⟨by first | rfl | (simp; done) | (simp; omega), (xr.trans x2).trans x3⟩
        · have es : (s.toList == s.toList) = true := beq_self_eq_true _
          have eq1 := p1 rfl
          have TT := fun W => Typed_any q1 W
          rw [eq1] at TT
          clear p1 p2 eq1
          go_wp2_with fail
          (with_reducible refine (KK _).mono ?_)
          rintro e w2 ⟨rfl, x2⟩
          go_wp2_with fail
          (with_reducible refine (Typed_any _ _).mono ?_)
          rintro e w3 ⟨rfl, x3⟩
          go_wp2_with fail
          (with_reducible refine (TT _).mono ?_)
          rintro e w4 ⟨rfl, x4⟩
          go_wp2_with fail
          go_ret
          exact ⟨by first | rfl | (simp; done) | (simp; omega), ((xr.trans x2).trans x3).trans x4⟩
      · by_cases hb : 4 < kind
        · rw [decide_eq_true (.inr hb)] at we
          cases q2
          · obtain rfl := p2 rfl
            clear p1 p2
            go_wp2_with fail
            (with_reducible refine (KK _).mono ?_)
            rintro e w2 ⟨rfl, x2⟩
            go_wp2_with fail
            (with_reducible refine (Typed_any _ _).mono ?_)
            rintro e w3 ⟨rfl, x3⟩
            go_wp2_with fail
            go_ret
            exact ⟨by first | rfl | (simp; done) | (simp; omega), (xr.trans x2).trans x3⟩
          · have es : (s.toList == s.toList) = true := beq_self_eq_true _
            have eq1 := p1 rfl
            have TT := fun W => Typed_any q1 W
            rw [eq1] at TT
            clear p1 p2 eq1
            go_wp2_with fail
            (with_reducible refine (KK _).mono ?_)
            rintro e w2 ⟨rfl, x2⟩
            go_wp2_with fail
            (with_reducible refine (Typed_any _ _).mono ?_)
            rintro e w3 ⟨rfl, x3⟩
            go_wp2_with fail
            (with_reducible refine (TT _).mono ?_)
            rintro e w4 ⟨rfl, x4⟩
            go_wp2_with fail
            go_ret
            exact ⟨by first | rfl | (simp; done) | (simp; omega), ((xr.trans x2).trans x3).trans x4⟩
        · rw [decide_eq_false (by omega)] at we
          cases q2
          · obtain rfl := p2 rfl
            clear p1 p2
            go_wp2_with fail
            (with_reducible refine (KK _).mono ?_)
            rintro e w2 ⟨rfl, x2⟩
            go_wp2_with fail
            (with_reducible refine (Typed_any _ _).mono ?_)
            rintro e w3 ⟨rfl, x3⟩
            go_wp2_with fail
            go_ret
            exact ⟨by first | rfl | (simp; done) | (simp; omega), (xr.trans x2).trans x3⟩
          · have es : (s.toList == s.toList) = true := beq_self_eq_true _
            have eq1 := p1 rfl
            have TT := fun W => Typed_any q1 W
            rw [eq1] at TT
            clear p1 p2 eq1
            go_wp2_with fail
            (with_reducible refine (KK _).mono ?_)
            rintro e w2 ⟨rfl, x2⟩
            go_wp2_with fail
            (with_reducible refine (Typed_any _ _).mono ?_)
            rintro e w3 ⟨rfl, x3⟩
            go_wp2_with fail
            (with_reducible refine (TT _).mono ?_)
            rintro e w4 ⟨rfl, x4⟩
            go_wp2_with fail
            go_ret
            exact ⟨by first | rfl | (simp; done) | (simp; omega), ((xr.trans x2).trans x3).trans x4⟩
end Go.Proofs.Ytjjnmefihdjglaa
