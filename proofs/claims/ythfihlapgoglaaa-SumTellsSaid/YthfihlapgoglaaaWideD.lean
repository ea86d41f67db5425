/- The walks of math/bits.Div64 by ten, sum.wide's tenth, power. -/
import Derived.Test.YthfihlapgoglaaaWideC
import Derived.Laws.Bits64b
namespace Go.Proofs.Ythfihlapgoglaaa
open Go.RowKit

theorem splitAt (n c : Nat) (h : 0 < c) : ∃ q r : Nat, n = q * c + r ∧ r < c := ⟨n / c, n % c, by rw [Nat.mul_comm]; exact (Nat.div_add_mod n c).symm, Nat.mod_lt _ h⟩
theorem div_q1 {U q1 r1 : Nat} (h : U = q1 * 2684354560 + r1) (hr : r1 < 2684354560) (hq : q1 < 4294967296) : IntKind.u64.wrap ((U : Int) / 2684354560) = (q1 : Int) := by
  rw [IntKind.wrap_u64]; omega
theorem div_r1 {U q1 r1 : Nat} (h : U = q1 * 2684354560 + r1) (hr : r1 < 2684354560) (_hq : q1 < 4294967296) : IntKind.u64.wrap ((U : Int) - (q1 : Int) * 2684354560) = (r1 : Int) := by
  rw [IntKind.wrap_u64]; omega
theorem div_T {U q1 r1 V T : Nat} (h : U = q1 * 2684354560 + r1) (hT : T = r1 * 4294967296 + V) (hV : V < 4294967296) (hr : r1 < 2684354560) :
    IntKind.u64.wrap (IntKind.u64.wrap ((U : Int) * 4294967296 + (V : Int)) - IntKind.u64.wrap ((q1 : Int) * 11529215046068469760)) = (T : Int) := by
  rw [IntKind.wrap_u64, IntKind.wrap_u64, IntKind.wrap_u64, ← Int.sub_emod, show (U : Int) * 4294967296 + (V : Int) - (q1 : Int) * 11529215046068469760 = (T : Int) from by omega]; omega
theorem div_R {T q0 r0 r R : Nat} (h : T = q0 * 2684354560 + r0) (fr : r0 = r * 268435456) (hr : r < 10) (eR : R = r * 1152921504606846976) :
    IntKind.u64.wrap (IntKind.u64.wrap (IntKind.u64.wrap ((T : Int) * 4294967296)) - IntKind.u64.wrap ((q0 : Int) * 11529215046068469760)) / 1152921504606846976 = (r : Int) := by
  rw [IntKind.wrap_u64, IntKind.wrap_u64, IntKind.wrap_u64, IntKind.wrap_u64, Int.emod_emod, ← Int.sub_emod, show (T : Int) * 4294967296 - (q0 : Int) * 11529215046068469760 = (R : Int) from by omega]; omega
theorem q_cast {q q1 q0 : Nat} (h : q = q1 * 4294967296 + q0) : (q1 : Int) * 4294967296 + (q0 : Int) = (q : Int) := by omega
theorem div_U {hi lo U : Nat} (eU : U = hi * 1152921504606846976 + lo / 16) (h0 : hi < 10) (h1 : lo < 18446744073709551616) : bits BinOp.or IntKind.u64 ((hi : Int) * 1152921504606846976) ((lo : Int) / 16) = (U : Int) := by
  have := bits_or_u64_nat (hi * 1152921504606846976) (lo / 16) (by omega) (by omega)
  rw [show ((hi : Int) * 1152921504606846976) = ((hi * 1152921504606846976 : Nat) : Int) from (Int.natCast_mul hi 1152921504606846976).symm, show ((lo : Int) / 16) = ((lo / 16 : Nat) : Int) from (Int.natCast_ediv lo 16).symm, this, eU]
  have h2 := Nat.two_pow_add_eq_or_of_lt (i := 60) (b := lo / 16) (by omega) hi
  rw [Nat.mul_comm] at h2
  exact congrArg (fun n : Nat => (n : Int)) h2.symm
theorem div_L {L V : Nat} (eL : L = V * 4294967296) (hV : V < 4294967296) : bits BinOp.and IntKind.u64 (L : Int) 4294967295 = 0 := by
  have := bits_and_u64_nat L 4294967295 (by omega) (by omega)
  have h2 : L &&& (2 ^ 32 - 1) = L % 2 ^ 32 := Nat.and_two_pow_sub_one_eq_mod L 32
  have h3 : L &&& 4294967295 = 0 := by
    have h4 : L % 2 ^ 32 = 0 := by rw [eL]; exact Nat.mul_mod_left V 4294967296
    exact h2.trans h4
  rw [h3] at this
  exact this
theorem div_all {hi lo q r U V q1 r1 T q0 r0 : Nat} (he : hi * 18446744073709551616 + lo = q * 10 + r) (hr : r < 10) (_h1 : lo < 18446744073709551616)
    (eU : U = hi * 1152921504606846976 + lo / 16) (eV : V = lo % 16 * 268435456) (eU' : U = q1 * 2684354560 + r1) (eT : T = r1 * 4294967296 + V) (eT' : T = q0 * 2684354560 + r0) (hr0 : r0 < 2684354560) :
    q = q1 * 4294967296 + q0 ∧ r0 = r * 268435456 := by omega

set_option maxHeartbeats 2000000 in
set_option maxRecDepth 100000 in
theorem Div64_10 (hi lo q r : Nat) (w : World) (h0 : hi < 10) (h1 : lo < W64) (he : hi * W64 + lo = q * 10 + r) (hr : r < 10) :
    Calls Try.prog 55 #[.int .u64 hi, .int .u64 lo, .int .u64 10] w fun e w' => e = .returned (.tuple #[.int .u64 (q : Int), .int .u64 (r : Int)]) ∧ ∃ n, w' = w.drewN n := by
  by_cases hz : hi = 0
  · subst hz
    have e1 : q = lo / 10 := by unfold W64 at *; omega
    have e2 : r = lo % 10 := by unfold W64 at *; omega
    subst e1 e2
    clear he hr
    unfold W64 at *
    go_enter Try.func55, Try.ntmps55
    go_wp2_with fail
    go_region
    go_wp2_with fail
    go_ret2
    exact ⟨ret2 (vI (by omega)) (vI (by omega)), ⟨1, rfl⟩⟩
  · unfold W64 at *
    have hL := bits_LeadingZeros64 10 w (by decide) (by decide)
    rw [show (64 - (Lib.bitLen (10 : Int).toNat : Int)) = 60 from by decide] at hL
    obtain ⟨U, eU⟩ : ∃ U, U = hi * 1152921504606846976 + lo / 16 := ⟨_, rfl⟩
    obtain ⟨V, eV⟩ : ∃ V, V = lo % 16 * 268435456 := ⟨_, rfl⟩
    obtain ⟨L, eL⟩ : ∃ L, L = V * 4294967296 := ⟨_, rfl⟩
    obtain ⟨q1, r1, eU', hr1⟩ := splitAt U 2684354560 (by omega)
    obtain ⟨T, eT⟩ : ∃ T, T = r1 * 4294967296 + V := ⟨_, rfl⟩
    obtain ⟨q0, r0, eT', hr0⟩ := splitAt T 2684354560 (by omega)
    have hV : V < 4294967296 := by omega
    have hq1 : q1 < 4294967296 := by omega
    have hq0 : q0 < 4294967296 := by omega
    obtain ⟨fq, fr⟩ := div_all he hr h1 eU eV eU' eT eT' hr0
    obtain ⟨R, eR⟩ : ∃ R, R = r * 1152921504606846976 := ⟨_, rfl⟩
    have b1 : bits BinOp.and IntKind.u64 11529215046068469760 4294967295 = 0 := by decide
    have b2 := div_U eU h0 h1
    have b3 : IntKind.u64.wrap ((lo : Int) * 1152921504606846976) = (L : Int) := by rw [IntKind.wrap_u64]; omega
    have b4 := div_L eL hV
    have b5 : (L : Int) / 4294967296 = (V : Int) := by omega
    have b6 := div_q1 eU' hr1 hq1
    have b7 := div_r1 eU' hr1 hq1
    have c1 := div_q1 eT' hr0 hq0
    have c2 := div_r1 eT' hr0 hq0
    have d1 : IntKind.u64.wrap (IntKind.u64.wrap ((U : Int) * 4294967296) + (V : Int)) = IntKind.u64.wrap ((U : Int) * 4294967296 + (V : Int)) := by rw [IntKind.wrap_u64, IntKind.wrap_u64, IntKind.wrap_u64]; omega
    have d2 := div_T eU' eT hV hr1
    have d3 := div_R eT' fr hr eR
    have g1 : binOp .geq 42 (.int .u64 (q1 : Int)) (.int .u64 4294967296) = pure (.bool false) := by
      simp only [go_sem]; rw [show decide ((q1 : Int) ≥ 4294967296) = false from by simp only [decide_eq_false_iff_not]; omega]
    have g2 : binOp .geq 42 (.int .u64 (q0 : Int)) (.int .u64 4294967296) = pure (.bool false) := by
      simp only [go_sem]; rw [show decide ((q0 : Int) ≥ 4294967296) = false from by simp only [decide_eq_false_iff_not]; omega]
    have HB := Lib.hid (And.intro eU' (And.intro eT (And.intro eT' (And.intro fq (And.intro fr eV)))))
    clear eU eV eL eU' eT eT' fq fr he h1 hr1 eR
    go_enter Try.func55, Try.ntmps55
    go_wp2_with fail
    refine hL.mono ?_
    rintro e w1 ⟨rfl, rfl⟩
    go_wp2_with fail
    refine wp_loop_rounds 1 ?_
    rw [rounds_succ]
    go_wp2_with fail
    clear b1 b2 b3 b4 b5 b6 b7 c1 c2 d1 d2 g1
    have D3 := Lib.hid d3
    clear d3
    refine wp_loop_rounds 1 ?_
    rw [rounds_succ]
    go_wp2_with fail
    go_ret2
    obtain ⟨-, -, -, fq, -, -⟩ := HB.out
    exact ⟨ret2 (vI (q_cast fq)) (vI D3.out), ⟨0, rfl⟩⟩

theorem ext_setCell {a w : World} (h : Ext a w) {p : Addr} (hp : a.heap.size ≤ p.block) (u : Value) : Ext a (w.setCell p u) := Below.setCell h hp u

/-- Words, the greatest first, divided by ten: tenth. -/
theorem split10 (n : Nat) : ∃ q r : Nat, n = q * 10 + r ∧ r < 10 := splitAt n 10 (by omega)

set_option maxHeartbeats 2000000 in
set_option maxRecDepth 100000 in
theorem tenth_any (A : Nat) (w : World) (hA : A < W256) :
    Calls Try.prog 47 #[wideV A] w fun e w' => e = .returned (.tuple #[wideV (A / 10), .int .u64 ((A % 10 : Nat) : Int)]) ∧ Ext w w' := by
  have hv := val4_wd A hA
  have l0 := wd_lt A 0
  have l1 := wd_lt A 1
  have l2 := wd_lt A 2
  have l3 := wd_lt A 3
  have hW : wideV A = .agg #[.int .u64 (wd A 0 : Int), .int .u64 (wd A 1 : Int), .int .u64 (wd A 2 : Int), .int .u64 (wd A 3 : Int)] := rfl
  rw [hW]
  clear hW
  generalize wd A 0 = a at *
  generalize wd A 1 = b at *
  generalize wd A 2 = c at *
  generalize wd A 3 = d at *
  obtain ⟨q3, r3, e3, hr3⟩ := split10 d
  obtain ⟨q2, r2, e2, hr2⟩ := split10 (r3 * W64 + c)
  obtain ⟨q1, r1, e1, hr1⟩ := split10 (r2 * W64 + b)
  obtain ⟨q0, r0, e0, hr0⟩ := split10 (r1 * W64 + a)
  have hq3 : q3 < W64 := by unfold W64 at *; omega
  have hq2 : q2 < W64 := by unfold W64 at *; omega
  have hq1 : q1 < W64 := by unfold W64 at *; omega
  have hq0 : q0 < W64 := by unfold W64 at *; omega
  have HT := tenth_arith e3 e2 e1 e0
  rw [hv] at HT
  have hres : Hid (wideV (A / 10) = .agg #[.int .u64 (q0 : Int), .int .u64 (q1 : Int), .int .u64 (q2 : Int), .int .u64 (q3 : Int)]) := by
    unfold Hid
    rw [show A / 10 = val4 q0 q1 q2 q3 from by omega, wideV_val4 hq0 hq1 hq2 hq3]
  have hmod : A % 10 = r0 := by omega
  have D3 := fun w => Div64_10 0 d q3 r3 w (by decide) l3 (by rw [e3]; omega) hr3
  have D2 := fun w => Div64_10 r3 c q2 r2 w hr3 l2 e2 hr2
  have D1 := fun w => Div64_10 r2 b q1 r1 w hr2 l1 e1 hr1
  have D0 := fun w => Div64_10 r1 a q0 r0 w hr1 l0 e0 hr0
  rw [hmod]
  clear hv e0 e1 e2 e3 HT hmod
  unfold W64 at *
  go_enter Try.func47, Try.ntmps47
  go_wp2_with fail
  refine wp_loop_rounds 5 ?_
  rw [rounds_succ]
  go_wp2_with fail
  refine (D3 _).mono ?_
  rintro e w3 ⟨rfl, n3, rfl⟩
  go_wp2_with fail
  rw [rounds_succ]
  go_wp2_with fail
  refine (D2 _).mono ?_
  rintro e w2 ⟨rfl, n2, rfl⟩
  go_wp2_with fail
  rw [rounds_succ]
  go_wp2_with fail
  refine (D1 _).mono ?_
  rintro e w1 ⟨rfl, n1, rfl⟩
  go_wp2_with fail
  rw [rounds_succ]
  go_wp2_with fail
  refine (D0 _).mono ?_
  rintro e w0 ⟨rfl, n0, rfl⟩
  go_wp2_with fail
  rw [rounds_succ]
  go_wp2_with fail
  rw [hres.out]
  refine bodyPost_ret (v := .tuple #[.agg #[.int .u64 (q0 : Int), .int .u64 (q1 : Int), .int .u64 (q2 : Int), .int .u64 (q3 : Int)], .int .u64 (r0 : Int)]) (by simp [results, Try.results47, go_sem]) rfl ⟨rfl, ?_⟩
  exact ext_setCell (ext_setCell (ext_setCell (ext_setCell (ext_setCell ((ext_setCell ((ext_setCell ((ext_setCell ((((Ext.refl w).alloc _).alloc _).drewN _) (Nat.le_refl _) _).drewN _) (Nat.le_refl _) _).drewN _) (Nat.le_refl _) _).drewN _) (Nat.le_refl _) _) (Nat.le_succ _) _) (Nat.le_succ _) _) (Nat.le_succ _) _) (Nat.le_succ _) _
end Go.Proofs.Ythfihlapgoglaaa
