/- The walk of sum.Compare. -/
import Derived.Test.YtiancppdcfahaaaDoorNumF
namespace Go.Proofs.YtiancppdcfahaaaDoor
open Go.RowKit

/-- A decimal's number with so many digits behind the point. -/
def scN (M S : Int) (s : Int) : Nat := M.natAbs * 10 ^ (s - S).toNat
theorem scN_lt (M S s : Int) (hM : -9223372036854775807 ≤ M ∧ M ≤ 9223372036854775807) (hS : 0 ≤ S) (hs : s ≤ 18) : scN M S s < 10000000000000000000000000000000000000 := by
  unfold scN
  have h1 : 10 ^ (s - S).toNat ≤ 10 ^ 18 := Nat.pow_le_pow_right (by omega) (by omega)
  have h2 : M.natAbs ≤ 9223372036854775807 := by omega
  have h3 := Nat.mul_le_mul h2 h1
  have h4 : 9223372036854775807 * 10 ^ 18 < 10000000000000000000000000000000000000 := by decide
  omega
/-- What Compare tells. -/
def cmpD (m1 s1 m2 s2 : Int) : Int := ncmp (decide (m1 < 0)) (scN m1 s1 (max s1 s2)) (decide (m2 < 0)) (scN m2 s2 (max s1 s2))

theorem cmp_keep {b c : Nat} {m s n t : Int} {w w' : World} (h1 : DecIn b m s w) (h2 : DecIn c n t w) (x : Ext w w') :
    w'.cell? ⟨b, 0, none⟩ = some (.int .i64 m) ∧ w'.cell? ⟨b, 1, none⟩ = some (.int .i64 s) ∧ w'.cell? ⟨c, 0, none⟩ = some (.int .i64 n) ∧ w'.cell? ⟨c, 1, none⟩ = some (.int .i64 t) :=
  ⟨(h1.ext x).cells.1, (h1.ext x).cells.2, (h2.ext x).cells.1, (h2.ext x).cells.2⟩

/-- Two decimals in memory, in two blocks; what was there stands. -/
def TwoIn (w : World) (b c : Nat) (m s n t : Int) (w' : World) : Prop := Ext w w' ∧ DecIn b m s w' ∧ DecIn c n t w'
theorem two_keep {w : World} {b c : Nat} {m s n t : Int} {w0 : World} (h : TwoIn w b c m s n t w0) {k : Nat} {args : Array Value} {v : Value} (C : Calls Tryd.prog k args w0 fun e w' => e = .returned v ∧ Ext w0 w') :
    Calls Tryd.prog k args w0 fun e w' => e = .returned v ∧ TwoIn w b c m s n t w' ∧ w'.cell? ⟨b, 0, none⟩ = some (.int .i64 m) ∧ w'.cell? ⟨b, 1, none⟩ = some (.int .i64 s) ∧ w'.cell? ⟨c, 0, none⟩ = some (.int .i64 n) ∧ w'.cell? ⟨c, 1, none⟩ = some (.int .i64 t) ∧ w'.frozen? ⟨b, 0, none⟩ = false ∧ w'.frozen? ⟨b, 1, none⟩ = false ∧ w'.frozen? ⟨c, 0, none⟩ = false ∧ w'.frozen? ⟨c, 1, none⟩ = false :=
  C.mono (fun _ _ ⟨he, x⟩ => ⟨he, ⟨h.1.trans x, h.2.1.ext x, h.2.2.ext x⟩, (h.2.1.ext x).cells.1, (h.2.1.ext x).cells.2, (h.2.2.ext x).cells.1, (h.2.2.ext x).cells.2, (h.2.1.ext x).free.1, (h.2.1.ext x).free.2, (h.2.2.ext x).free.1, (h.2.2.ext x).free.2⟩)

end Go.Proofs.YtiancppdcfahaaaDoor
