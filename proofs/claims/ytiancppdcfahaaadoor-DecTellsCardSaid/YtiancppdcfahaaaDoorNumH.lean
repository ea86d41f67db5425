/- The walk of sum.Add. -/
import Derived.Test.YtiancppdcfahaaaDoorNumG
import Derived.Deep.DeepCutAuto
namespace Go.Proofs.YtiancppdcfahaaaDoor
open Go.RowKit

/-- The sum of two decimals, as Add reckons it. -/
def addN (m1 s1 m2 s2 : Int) : Nat := nplusN (decide (m1 < 0)) (scN m1 s1 (max s1 s2)) (decide (m2 < 0)) (scN m2 s2 (max s1 s2))
def addB (m1 s1 m2 s2 : Int) : Bool := nplusS (decide (m1 < 0)) (scN m1 s1 (max s1 s2)) (decide (m2 < 0)) (scN m2 s2 (max s1 s2))
def addM (m1 s1 m2 s2 : Int) : Int := decMv (addB m1 s1 m2 s2) (addN m1 s1 m2 s2) (max s1 s2).toNat
def addS (m1 s1 m2 s2 : Int) : Int := decSv (addN m1 s1 m2 s2) (max s1 s2).toNat
def addOk (m1 s1 m2 s2 : Int) : Bool := decOk (addN m1 s1 m2 s2) (max s1 s2).toNat
/-- The sum of a row of decimals, from one on. -/
def sumL : Int → Int → List (Int × Int) → (Int × Int) × Bool
  | m, s, [] => ((m, s), true)
  | m, s, d :: l => if goodB d.1 d.2 then (if addOk m s d.1 d.2 then sumL (addM m s d.1 d.2) (addS m s d.1 d.2) l else ((0, 0), false)) else ((0, 0), false)

theorem sumL_cons (m s : Int) (d : Int × Int) (l : List (Int × Int)) : sumL m s (d :: l) = if goodB d.1 d.2 then (if addOk m s d.1 d.2 then sumL (addM m s d.1 d.2) (addS m s d.1 d.2) l else ((0, 0), false)) else ((0, 0), false) := rfl
theorem decMv_range (neg : Bool) (N s : Nat) : -9223372036854775807 ≤ decMv neg N s ∧ decMv neg N s ≤ 9223372036854775807 := by
  unfold decMv decOk
  split
  · rename_i h; simp at h; cases neg <;> simp <;> omega
  · omega
theorem decSv_range (N s : Nat) : 0 ≤ decSv N s ∧ decSv N s ≤ 18 := by
  unfold decSv decOk
  split
  · rename_i h; simp at h; omega
  · omega

/-- The decimals of a slice, from an address on. -/
def DecsAt (b o : Nat) (l : List (Int × Int)) (w : World) : Prop := ∀ i (h : i < l.length), w.cell? ⟨b, o + i * 2, none⟩ = some (.int .i64 l[i].1) ∧ w.cell? ⟨b, o + i * 2 + 1, none⟩ = some (.int .i64 l[i].2)

theorem TwoIn.alloc {w : World} {b c : Nat} {m s n t : Int} {w0 : World} (h : TwoIn w b c m s n t w0) (o : Obj) : TwoIn w b c m s n t (w0.alloc o) := ⟨h.1.alloc o, h.2.1.ext ((Ext.refl _).alloc o), h.2.2.ext ((Ext.refl _).alloc o)⟩
theorem TwoIn.alloc_drew {w : World} {b c : Nat} {m s n t : Int} {w0 : World} (h : TwoIn w b c m s n t w0) {o : Obj} : TwoIn w b c m s n t (w0.alloc o).drew := ⟨(h.1.alloc o).drew, h.2.1.ext ((Ext.refl _).alloc o).drew, h.2.2.ext ((Ext.refl _).alloc o).drew⟩
theorem alloc_dec (X : World) : DecIn X.heap.size 0 0 (X.alloc (.cells #[.int .i64 0, .int .i64 0] 23)) := heap_last _ _
theorem two_keepx {w : World} {b c : Nat} {m s n t : Int} {w0 : World} (h : TwoIn w b c m s n t w0) {k : Nat} {args : Array Value} {v : Value} (C : Calls Tryd.prog k args w0 fun e w' => e = .returned v ∧ Ext w0 w') :
    Calls Tryd.prog k args w0 fun e w' => e = .returned v ∧ Ext w0 w' ∧ TwoIn w b c m s n t w' ∧ w'.cell? ⟨b, 0, none⟩ = some (.int .i64 m) ∧ w'.cell? ⟨b, 1, none⟩ = some (.int .i64 s) ∧ w'.cell? ⟨c, 0, none⟩ = some (.int .i64 n) ∧ w'.cell? ⟨c, 1, none⟩ = some (.int .i64 t) ∧ True :=
  C.mono (fun _ _ ⟨he, x⟩ => ⟨he, x, ⟨h.1.trans x, h.2.1.ext x, h.2.2.ext x⟩, (h.2.1.ext x).cells.1, (h.2.1.ext x).cells.2, (h.2.2.ext x).cells.1, (h.2.2.ext x).cells.2, trivial⟩)

end Go.Proofs.YtiancppdcfahaaaDoor
