/- The law SumTells answers true at every input; what came in reads as it did. -/
import Derived.Test.YthfihlapgoglaaaSumTellsW
import Derived.Test.YthfihlapgoglaaaDecsRow
import Derived.Test.YthfihlapgoglaaaRow
namespace Go.Proofs.Ythfihlapgoglaaa
open Go.ChangeShapes Go.WideShapes Go.ChangeAt Go.RowKit
open Go.ChangeMaps (open_string shut_string)

set_option maxHeartbeats 4000000 in
set_option maxRecDepth 100000 in
theorem SumTells_short (a0 : Option Addr) (n c : Nat) (z : Int) (w : World) (h : n < 2 ∨ 12 < n) (hn : (n : Int) ≤ 9223372036854775807) :
    Calls Try.prog 3 #[.slice a0 n c, .int .i64 z] w fun e w' => e = .returned (.bool true) ∧ Ext w w' := by
  rcases h with h | h
  · go_enter Try.func3, Try.ntmps3
    go_wp2_with fail
    refine (known_any _).mono ?_
    rintro e w1 ⟨rfl, x1⟩
    go_wp2_with fail
    go_ret
    exact ⟨rfl, x1⟩
  · have h3 : 2 ≤ n := by omega
    go_enter Try.func3, Try.ntmps3
    go_wp2_with fail
    refine (known_any _).mono ?_
    rintro e w1 ⟨rfl, x1⟩
    go_wp2_with fail
    go_ret
    exact ⟨rfl, x1⟩
theorem SumTells_any (a0 : Option Addr) (c : Nat) (l : List (Int × Int)) (z : Int) (w : World) (hl : (l.length : Int) ≤ 9223372036854775807) (hA : 0 < l.length → ∃ b o, a0 = some ⟨b, o, none⟩ ∧ b < w.heap.size ∧ DecsAt b o l w) (hI : ∀ d ∈ l, I64 d.1 ∧ I64 d.2) (hz : I64 z) :
    Calls Try.prog 3 #[.slice a0 l.length c, .int .i64 z] w fun e w' => e = .returned (.bool true) ∧ Ext w w' := by
  by_cases h2 : 2 ≤ l.length
  · by_cases h12 : l.length ≤ 12
    · obtain ⟨b, o, rfl, hb, hd⟩ := hA (by omega)
      exact SumTells_main b o c l z w h2 h12 hI ⟨hb, hd⟩ hz
    · exact SumTells_short a0 l.length c z w (.inr (by omega)) hl
  · exact SumTells_short a0 l.length c z w (.inl (by omega)) hl
set_option maxRecDepth 100000 in
set_option linter.unusedVariables false in
theorem sumTells_lifted (os : Os) (started : os.Started) (H : Type) (enc : TypeId × Value → H) :
    ReturnsInHanded {} Try.checked os 3 .any (Rows.sumTellsSpec.pre6 enc Try.prog Try.f3 Rows.sumTellsRow.domain false) (Rows.sumTellsSpec.post enc Try.prog Try.f3 false true false false) := by
  refine returnsInHanded_of_change (C := Try.checked) ownP started (by kernel_rfl) Try.func3
    (ChangeSpec.witness6 (enc := enc) (C := Try.checked) false ⟨#[], #[.slice none 0 0, .int .i64 0], []⟩ 8 (by kernel_rfl) (by kernel_rfl) (by kernel_rfl) (by kernel_rfl)) ?_
  intro W base args ds gs before hval0 hW hcnd _
  have hval : ∀ (j : Nat) t v, Try.f3.params[j]? = some t → args[j]? = some v → Value.okWide Try.prog W .any base t v := hval0
  have hW' := hW
  obtain ⟨p, q, hA0, hV, rfl, hfz, hnd⟩ := hW
  have hA : DataW.TrodAll enc Try.prog W 0 (fun _ => true) true Try.f3.params.toList args.toList ds p := hA0
  rw [Try.params3] at hA hval
  obtain ⟨v0, vs0, d0, ds0, p0, q0, hargs, rfl, rfl, h0, r0⟩ := trodAll_cons hA
  obtain ⟨v1, vs1, d1, ds1, p1, q1, rfl, rfl, rfl, h1, r1⟩ := trodAll_cons r0
  obtain ⟨rfl, rfl, rfl⟩ := trodAll_nil r1
  obtain rfl : args = #[v0, v1] := by cases args; simp_all
  obtain ⟨rfl, rfl⟩ := trodVars_none hV
  have k0 := h0
  have l0 : ∀ x ∈ p0, x.block < W.heap.size := fun x hx => by simpa using hW'.lt x (by simp [hx])
  obtain ⟨A0, c0, ss0, rfl, z0, g0, y0⟩ := openDecs (hval 0 22 v0 rfl rfl) h0
  obtain ⟨a1, rfl, rfl, rfl, w1⟩ := open_int Try.underlying3 (hval 1 3 v1 rfl rfl) h1
  have b1 := bounds_i64 w1
  clear hA0 hval0
  simp only [List.append_nil] at hW'
  refine (SumTells_any A0 c0 ss0 a1 W z0 g0 y0 ⟨b1.1, b1.2⟩).mono fun e W' ⟨he, hg⟩ => ?_
  subst he
  exact ⟨_, rfl, post_ext hW' (fun _ _ _ => (trodAll_cons_mk (shut_bool Try.underlying4 _) trodAll_mk0)) (trodAll_cons_mk (Below.trod laidOutP (by kernel_rfl) (of_decide_eq_true (by kernel_rfl)) k0 hg l0) (trodAll_cons_mk (shut_int Try.underlying3 w1) trodAll_mk0)) rfl hg⟩

theorem sumTells_holds : Rows.SumTellsSaid :=
  OpenClaim.holds_of_wide 3 Try.f3 rfl rfl rfl rfl rfl rfl rfl ⟨rfl, rfl, rfl, rfl, rfl⟩ rfl rfl rfl rfl rfl (by kernel_rfl) Try.func3 (by kernel_rfl)
    (of_decide_eq_true (by kernel_rfl)) (by unfold Func.isWrapper; first | (rw [if_pos (by decide +kernel)]; kernel_rfl) | (rw [if_neg (by decide +kernel)]; exact ⟨rfl, rfl⟩))
    (fun os started H enc _ => sumTells_lifted os started H enc)
#print axioms sumTells_holds
end Go.Proofs.Ythfihlapgoglaaa
