/- Points: the small comparisons: of texts, numbers, flags; the first that is not 0. -/
import Derived.Lib.Strings
import Derived.Lib.Slices
import Derived.Lib.Walk
import Derived.Lib.Bytealg
import Derived.Test.YtbkhdjbhijmghaaNumG
namespace Go.Proofs.Ytbkhdjbhijmghaa
open Go.RowKit

/-- How two texts compare. -/
def cmpS (a b : ByteArray) : Int := Lib.compareBytes a.data.toList b.data.toList
/-- How two numbers compare. -/
def cmpI (x y : Int) : Int := if x < y then -1 else if y < x then 1 else 0
/-- How two flags compare. -/
def cmpB (x y : Bool) : Int := if x == y then 0 else if y then -1 else 1
/-- The first that is not 0. -/
def orL : List Int → Int
  | [] => 0
  | x :: l => if x ≠ 0 then x else orL l
/-- -1, 0, 1. -/
def C3 (x : Int) : Prop := x = -1 ∨ x = 0 ∨ x = 1
theorem cmpI_c3 (x y : Int) : C3 (cmpI x y) := by unfold C3 cmpI; split <;> (try split) <;> simp
theorem cmpB_c3 (x y : Bool) : C3 (cmpB x y) := by cases x <;> cases y <;> (unfold C3; decide)
theorem cmpBytes_c3 : ∀ (l m : List UInt8), C3 (Lib.compareBytes l m)
  | [], [] => .inr (.inl rfl)
  | [], _ :: _ => .inl rfl
  | _ :: _, [] => .inr (.inr rfl)
  | a :: l, b :: m => by
    unfold Lib.compareBytes
    split
    · exact .inl rfl
    · split
      · exact .inr (.inr rfl)
      · exact cmpBytes_c3 l m
theorem cmpS_c3 (a b : ByteArray) : C3 (cmpS a b) := cmpBytes_c3 _ _
theorem orL_c3 : ∀ (l : List Int), (∀ x ∈ l, C3 x) → C3 (orL l)
  | [], _ => .inr (.inl rfl)
  | x :: l, h => by
    unfold orL
    split
    · exact h x (by simp)
    · exact orL_c3 l (fun y hy => h y (by simp [hy]))
set_option maxHeartbeats 1000000 in
set_option maxRecDepth 100000 in
theorem CompareString_any (a b : ByteArray) (w : World) :
    Calls Try.prog 49 #[.string a, .string b] w fun e w' => e = .returned (.int .i64 (cmpS a b)) ∧ w' = w := by
  go_enter Try.func49, Try.ntmps49
  go_wp2
  rw [run_callFunc_extern Try.func57 (by kernel_rfl) (by kernel_rfl) (by kernel_rfl) (e := Extern.BytealgCompare.compare) (by kernel_rfl), Lib.run_compareString]
  simp only [Result.andThen]
  rw [Oper.upon_value]
  go_wp2
  go_ret
  exact ⟨rfl, rfl⟩
theorem strCompare_any (a b : ByteArray) (w : World) :
    Calls Try.prog 32 #[.string a, .string b] w fun e w' => e = .returned (.int .i64 (cmpS a b)) ∧ Ext w w' := by
  go_enter Try.func32, Try.ntmps32
  go_wp2_with fail
  refine (CompareString_any _ _ _).mono ?_
  rintro e w' ⟨rfl, rfl⟩
  go_wp2_with fail
  go_ret
  exact ⟨rfl, Ext.refl _⟩
set_option maxHeartbeats 1000000 in
theorem cmpInt_any (x y : Int) (w : World) :
    Calls Try.prog 16 #[.int .i64 x, .int .i64 y] w fun e w' => e = .returned (.int .i64 (cmpI x y)) ∧ Ext w w' := by
  go_enter Try.func16, Try.ntmps16
  go_wp2
  all_goals (go_ret; refine ⟨?_, Ext.refl _⟩; unfold cmpI; (repeat' split) <;> first | rfl | (exfalso; omega))
set_option maxHeartbeats 1000000 in
theorem cmpInt64_any (x y : Int) (w : World) :
    Calls Try.prog 15 #[.int .i64 x, .int .i64 y] w fun e w' => e = .returned (.int .i64 (cmpI x y)) ∧ Ext w w' := by
  go_enter Try.func15, Try.ntmps15
  go_wp2
  all_goals (go_ret; refine ⟨?_, Ext.refl _⟩; unfold cmpI; (repeat' split) <;> first | rfl | (exfalso; omega))
theorem bools_any (x y : Bool) (w : World) :
    Calls Try.prog 14 #[.bool x, .bool y] w fun e w' => e = .returned (.int .i64 (cmpB x y)) ∧ Ext w w' := by
  cases x <;> cases y <;>
    (go_enter Try.func14, Try.ntmps14
     go_wp2
     go_ret
     exact ⟨rfl, Ext.refl _⟩)

/-- Numbers in a row of memory. -/
def IntsAt (b o : Nat) (l : List Int) (w : World) : Prop := ∀ i (h : i < l.length), w.cell? ⟨b, o + i, none⟩ = some (.int .i64 l[i])
set_option maxHeartbeats 1000000 in
theorem Or_any (b o c : Nat) (l : List Int) (w : World) (hl : l.length < 1000000) (hc : IntsAt b o l w) :
    Calls Try.prog 12 #[.slice (some ⟨b, o, none⟩) l.length c] w fun e w' => e = .returned (.int .i64 (orL l)) ∧ Ext w w' := by
  obtain ⟨R, hR⟩ : ∃ R, orL l = R := ⟨_, rfl⟩
  rw [hR]
  go_enter Try.func12, Try.ntmps12
  go_wp2_with fail
  go_loopw [8] (fun i wr => ∃ k : Nat, i = .int .i64 k ∧ k ≤ l.length ∧ Hid (orL (l.drop k) = R) ∧ wr = w) (fun i _ => l.length - (intOf i).toNat)
  case atStart => exact ⟨0, rfl, Nat.zero_le _, Lib.hid (by rw [List.drop_zero]; exact hR), rfl⟩
  case round =>
    obtain ⟨k, rfl, hk, hz, rfl⟩ := hrel
    by_cases hlt : k < l.length
    · have g := hc k hlt
      have hd := hz.out
      rw [List.drop_eq_getElem_cons hlt] at hd
      unfold orL at hd
      generalize l[k] = x at *
      by_cases h0 : x = 0
      · subst h0
        rw [if_neg (by decide)] at hd
        replace hd := Lib.hid hd
        clear hz hR
        go_wp2_with fail
        go_roundw
        case rel => exact ⟨k + 1, rfl, hlt, hd, by first | trivial | rfl⟩
        case measure => simp only [intOf]; omega
      · rw [if_pos h0] at hd
        replace hd := Lib.hid hd
        clear hz hR
        go_wp2_with fail
        go_ret
        exact ⟨retI hd.out, Ext.refl _⟩
    · have hd := hz.out
      rw [List.drop_eq_nil_of_le (by omega)] at hd
      have hk2 : k = l.length := by omega
      subst hk2
      replace hd : Hid ((0 : Int) = R) := Lib.hid hd
      clear hz hR
      go_wp2_with fail
      go_ret
      exact ⟨retI hd.out, Ext.refl _⟩
end Go.Proofs.Ytbkhdjbhijmghaa
