/- The walk of number.dec. -/
import Derived.Test.YtbkhdjbhijmghaaNumD
import Derived.Deep.RegionWith
import Derived.Laws.StructEq
import Derived.ChangeKeysEq
namespace Go.Proofs.Ytbkhdjbhijmghaa
open Go.RowKit

/-- A number without noughts behind, as long as there are digits behind the point. -/
def strip : Nat → Nat → Nat × Nat
  | N, 0 => (N, 0)
  | N, s + 1 => if N % 10 = 0 then strip (N / 10) s else (N, s + 1)
def decOk (N s : Nat) : Bool := decide ((strip N s).2 ≤ 18 ∧ (strip N s).1 ≤ 9223372036854775807)
/-- The decimal that a number is. -/
def decMv (neg : Bool) (N s : Nat) : Int := if decOk N s then (if neg then -((strip N s).1 : Int) else ((strip N s).1 : Int)) else 0
def decSv (N s : Nat) : Int := if decOk N s then ((strip N s).2 : Int) else 0
theorem strip_zero : ∀ s, strip 0 s = (0, 0)
  | 0 => rfl
  | s + 1 => by unfold strip; rw [if_pos rfl]; exact strip_zero s
theorem strip_le : ∀ (s N : Nat), (strip N s).1 ≤ N ∧ (strip N s).2 ≤ s
  | 0, N => ⟨Nat.le_refl _, Nat.le_refl _⟩
  | s + 1, N => by
    unfold strip
    split
    · have := strip_le s (N / 10)
      exact ⟨by omega, by omega⟩
    · exact ⟨Nat.le_refl _, Nat.le_refl _⟩

set_option maxRecDepth 100000 in
theorem eql_wide (a b c d x y z t : Int) (w : World) : (Op.equalIn 10000 58 (.agg #[.int .u64 a, .int .u64 b, .int .u64 c, .int .u64 d]) (.agg #[.int .u64 x, .int .u64 y, .int .u64 z, .int .u64 t])).run Try.prog w = .ok (decide (a = x ∧ b = y ∧ c = z ∧ d = t)) w := by
  have hi0 : (Try.prog.info? 56).isSome = true := by kernel_rfl
  obtain ⟨i, hi⟩ := Option.isSome_iff_exists.1 hi0
  have hu : Try.prog.underlying 58 = some (.array 4 56) := by kernel_rfl
  have hu2 : Try.prog.underlying 56 = some (.int .u64) := by kernel_rfl
  have hc : Try.prog.cellsOf 56 = 1 := by kernel_rfl
  rw [run_equalIn_array w 9999 _ _ hu hi, hc, show List.range 4 = [0, 1, 2, 3] from rfl]
  simp [Op.eqItems, go_sem, run_equalIn_int, hu2]
  by_cases h1 : a = x <;> by_cases h2 : b = y <;> by_cases h3 : c = z <;> by_cases h4 : d = t <;> simp [h1, h2, h3, h4]
theorem eql_wide0 (N : Nat) (hN : N < W256) (w : World) : (Op.equalIn 10000 58 (.agg #[.int .u64 (wd N 0 : Int), .int .u64 (wd N 1 : Int), .int .u64 (wd N 2 : Int), .int .u64 (wd N 3 : Int)]) (.agg #[.int .u64 0, .int .u64 0, .int .u64 0, .int .u64 0])).run Try.prog w = .ok (decide (N = 0)) w := by
  rw [eql_wide]
  congr 1
  apply decide_eq_decide.2
  have hv := val4_wd N hN
  unfold val4 at hv
  constructor
  · rintro ⟨h0, h1, h2, h3⟩; omega
  · intro h; omega

theorem dec_keep {b : Nat} {n : Bool} {A : Nat} {s : Int} {w w' : World} (h1 : NumIn b n A s w) (x : Ext w w') :
    w'.cell? ⟨b, 1, none⟩ = some (.int .u64 (wd A 0 : Int)) ∧ w'.cell? ⟨b, 2, none⟩ = some (.int .u64 (wd A 1 : Int)) ∧ w'.cell? ⟨b, 3, none⟩ = some (.int .u64 (wd A 2 : Int)) ∧ w'.cell? ⟨b, 4, none⟩ = some (.int .u64 (wd A 3 : Int)) ∧ w'.cell? ⟨b, 5, none⟩ = some (.int .i64 s) := by
  obtain ⟨_, c1, c2, c3, c4, c5⟩ := (h1.ext x).cells
  exact ⟨c1, c2, c3, c4, c5⟩

/-- How many digits stand behind the point of the number in block b. -/
def scaleOf (w : World) (b : Nat) : Nat := match w.cell? ⟨b, 5, none⟩ with | some v => (intOf v).toNat | none => 0
theorem scaleOf_num {b : Nat} {n : Bool} {A : Nat} {s : Int} {w : World} (h : NumIn b n A s w) : scaleOf w b = s.toNat := by
  unfold scaleOf; rw [h.cells.2.2.2.2.2]; rfl
theorem scale_lt {b : Nat} {n m : Bool} {A B : Nat} {s t : Int} {w w' : World} (h : NumIn b n A s w) (k : NumIn b m B t w') (l : s.toNat < t.toNat) : scaleOf w b < scaleOf w' b := by
  rw [scaleOf_num h, scaleOf_num k]; exact l

theorem numW_keep {b : Nat} {n : Bool} {A : Nat} {s : Int} {w w' : World} (h1 : NumIn b n A s w) (x : Ext w w') :
    w'.cell? ⟨b, 1, none⟩ = some (.int .u64 (wd A 0 : Int)) ∧ w'.cell? ⟨b, 2, none⟩ = some (.int .u64 (wd A 1 : Int)) ∧ w'.cell? ⟨b, 3, none⟩ = some (.int .u64 (wd A 2 : Int)) ∧ w'.cell? ⟨b, 4, none⟩ = some (.int .u64 (wd A 3 : Int)) := by
  obtain ⟨_, c1, c2, c3, c4, _⟩ := (h1.ext x).cells
  exact ⟨c1, c2, c3, c4⟩

end Go.Proofs.Ytbkhdjbhijmghaa
