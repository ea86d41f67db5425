/- The walk of number.dec. -/
import Derived.Test.YthfihlapgoglaaaNumD
import Derived.Deep.RegionWith
import Derived.Laws.StructEq
import Derived.ChangeKeysEq
namespace Go.Proofs.Ythfihlapgoglaaa
open Go.RowKit

/-- A number without noughts behind, as long as there are digits behind the point. -/
def strip : Nat → Nat → Nat × Nat
  | N, 0 => (N, 0)
  | N, s + 1 => if N % 10 = 0 then strip (N / 10) s else (N, s + 1)
def decOk (N s : Nat) : Bool := decide ((strip N s).2 ≤ 18 ∧ (strip N s).1 ≤ 9223372036854775807)
/-- The decimal that a number is. -/
def decMv (neg : Bool) (N s : Nat) : Int := if decOk N s then (if neg then -((strip N s).1 : Int) else ((strip N s).1 : Int)) else 0
def decSv (N s : Nat) : Int := if decOk N s then ((strip N s).2 : Int) else 0
theorem strip_zero : ∀ s, strip 0 s = (0, 0)
  | 0 => rfl
  | s + 1 => by unfold strip; rw [if_pos rfl]; exact strip_zero s
theorem strip_le : ∀ (s N : Nat), (strip N s).1 ≤ N ∧ (strip N s).2 ≤ s
  | 0, N => ⟨Nat.le_refl _, Nat.le_refl _⟩
  | s + 1, N => by
    unfold strip
    split
    · have := strip_le s (N / 10)
      exact ⟨by omega, by omega⟩
    · exact ⟨Nat.le_refl _, Nat.le_refl _⟩

set_option maxRecDepth 100000 in
theorem eql_wide (a b c d x y z t : Int) (w : World) : (Op.equalIn 10000 44 (.agg #[.int .u64 a, .int .u64 b, .int .u64 c, .int .u64 d]) (.agg #[.int .u64 x, .int .u64 y, .int .u64 z, .int .u64 t])).run Try.prog w = .ok (decide (a = x ∧ b = y ∧ c = z ∧ d = t)) w := by
  have hi0 : (Try.prog.info? 42).isSome = true := by kernel_rfl
  obtain ⟨i, hi⟩ := Option.isSome_iff_exists.1 hi0
  have hu : Try.prog.underlying 44 = some (.array 4 42) := by kernel_rfl
  have hu2 : Try.prog.underlying 42 = some (.int .u64) := by kernel_rfl
  have hc : Try.prog.cellsOf 42 = 1 := by kernel_rfl
  rw [run_equalIn_array w 9999 _ _ hu hi, hc, show List.range 4 = [0, 1, 2, 3] from rfl]
  simp [Op.eqItems, go_sem, run_equalIn_int, hu2]
  by_cases h1 : a = x <;> by_cases h2 : b = y <;> by_cases h3 : c = z <;> by_cases h4 : d = t <;> simp [h1, h2, h3, h4]
theorem eql_wide0 (N : Nat) (hN : N < W256) (w : World) : (Op.equalIn 10000 44 (.agg #[.int .u64 (wd N 0 : Int), .int .u64 (wd N 1 : Int), .int .u64 (wd N 2 : Int), .int .u64 (wd N 3 : Int)]) (.agg #[.int .u64 0, .int .u64 0, .int .u64 0, .int .u64 0])).run Try.prog w = .ok (decide (N = 0)) w := by
  rw [eql_wide]
  congr 1
  apply decide_eq_decide.2
  have hv := val4_wd N hN
  unfold val4 at hv
  constructor
  · rintro ⟨h0, h1, h2, h3⟩; omega
  · intro h; omega

theorem dec_keep {b : Nat} {n : Bool} {A : Nat} {s : Int} {w w' : World} (h1 : NumIn b n A s w) (x : Ext w w') :
    w'.cell? ⟨b, 1, none⟩ = some (.int .u64 (wd A 0 : Int)) ∧ w'.cell? ⟨b, 2, none⟩ = some (.int .u64 (wd A 1 : Int)) ∧ w'.cell? ⟨b, 3, none⟩ = some (.int .u64 (wd A 2 : Int)) ∧ w'.cell? ⟨b, 4, none⟩ = some (.int .u64 (wd A 3 : Int)) ∧ w'.cell? ⟨b, 5, none⟩ = some (.int .i64 s) := by
  obtain ⟨_, c1, c2, c3, c4, c5⟩ := (h1.ext x).cells
  exact ⟨c1, c2, c3, c4, c5⟩

/-- How many digits stand behind the point of the number in block b. -/
def scaleOf (w : World) (b : Nat) : Nat := match w.cell? ⟨b, 5, none⟩ with | some v => (intOf v).toNat | none => 0
theorem scaleOf_num {b : Nat} {n : Bool} {A : Nat} {s : Int} {w : World} (h : NumIn b n A s w) : scaleOf w b = s.toNat := by
  unfold scaleOf; rw [h.cells.2.2.2.2.2]; rfl
theorem scale_lt {b : Nat} {n m : Bool} {A B : Nat} {s t : Int} {w w' : World} (h : NumIn b n A s w) (k : NumIn b m B t w') (l : s.toNat < t.toNat) : scaleOf w b < scaleOf w' b := by
  rw [scaleOf_num h, scaleOf_num k]; exact l

theorem numW_keep {b : Nat} {n : Bool} {A : Nat} {s : Int} {w w' : World} (h1 : NumIn b n A s w) (x : Ext w w') :
    w'.cell? ⟨b, 1, none⟩ = some (.int .u64 (wd A 0 : Int)) ∧ w'.cell? ⟨b, 2, none⟩ = some (.int .u64 (wd A 1 : Int)) ∧ w'.cell? ⟨b, 3, none⟩ = some (.int .u64 (wd A 2 : Int)) ∧ w'.cell? ⟨b, 4, none⟩ = some (.int .u64 (wd A 3 : Int)) := by
  obtain ⟨_, c1, c2, c3, c4, _⟩ := (h1.ext x).cells
  exact ⟨c1, c2, c3, c4⟩

set_option maxHeartbeats 8000000 in
set_option maxRecDepth 100000 in
theorem dec_any (neg : Bool) (N s : Nat) (w : World) (hN : N < W256) (hs : s < 1000) :
    Calls Try.prog 26 #[numV neg N s] w fun e w' => e = .returned (.tuple #[decV (decMv neg N s) (decSv N s), .bool (decOk N s)]) ∧ Ext w w' := by
  have hx : Ext w ((w.alloc (.cells #[.bool neg, .int .u64 (wd N 0 : Int), .int .u64 (wd N 1 : Int), .int .u64 (wd N 2 : Int), .int .u64 (wd N 3 : Int), .int .i64 s] 46)).alloc (.cells #[.int .i64 0, .int .i64 0] 25)) := ((Ext.refl _).alloc _).alloc _
  have h1 : NumIn w.heap.size neg N s ((w.alloc (.cells #[.bool neg, .int .u64 (wd N 0 : Int), .int .u64 (wd N 1 : Int), .int .u64 (wd N 2 : Int), .int .u64 (wd N 3 : Int), .int .i64 s] 46)).alloc (.cells #[.int .i64 0, .int .i64 0] 25)) := heap_at2a _ _ _
  have h2 : DecIn (w.heap.size + 1) 0 0 ((w.alloc (.cells #[.bool neg, .int .u64 (wd N 0 : Int), .int .u64 (wd N 1 : Int), .int .u64 (wd N 2 : Int), .int .u64 (wd N 3 : Int), .int .i64 s] 46)).alloc (.cells #[.int .i64 0, .int .i64 0] 25)) := heap_at2b _ _ _
  have C1 : ∀ w, Calls Try.prog 28 #[.int .u64 0] w fun e w' => e = .returned (.agg #[.int .u64 0, .int .u64 0, .int .u64 0, .int .u64 0]) ∧ Ext w w' := fun w => of_any 0 w (by decide)
  by_cases h0 : N = 0
  · have E : ∀ w, (Op.equalIn 10000 44 (.agg #[.int .u64 (wd N 0 : Int), .int .u64 (wd N 1 : Int), .int .u64 (wd N 2 : Int), .int .u64 (wd N 3 : Int)]) (.agg #[.int .u64 0, .int .u64 0, .int .u64 0, .int .u64 0])).run Try.prog w = .ok true w := fun w => by rw [eql_wide0 N hN w, decide_eq_true h0]
    have hr : Hid (decMv neg N s = 0 ∧ decSv N s = 0 ∧ decOk N s = true) := by
      subst h0
      unfold Hid decMv decSv
      have : decOk 0 s = true := by unfold decOk; rw [strip_zero]; rfl
      rw [if_pos this, if_pos this, strip_zero]
      cases neg <;> exact ⟨rfl, rfl, this⟩
    clear h0 hN hs
    unfold numV
    go_enter Try.func26, Try.ntmps26
    go_wp2_with fail
    generalize ((w.alloc (.cells #[.bool neg, .int .u64 (wd N 0 : Int), .int .u64 (wd N 1 : Int), .int .u64 (wd N 2 : Int), .int .u64 (wd N 3 : Int), .int .i64 s] 46)).alloc (.cells #[.int .i64 0, .int .i64 0] 25)) = W at *
    obtain ⟨c0, c1, c2, c3, c4, c5⟩ := h1.cells
    go_region_held3 (fun w' => w'.cell? ⟨w.heap.size, 1, none⟩ = some (.int .u64 (wd N 0 : Int)) ∧ w'.cell? ⟨w.heap.size, 2, none⟩ = some (.int .u64 (wd N 1 : Int)) ∧ w'.cell? ⟨w.heap.size, 3, none⟩ = some (.int .u64 (wd N 2 : Int)) ∧ w'.cell? ⟨w.heap.size, 4, none⟩ = some (.int .u64 (wd N 3 : Int))) (first | exact numW_keep h1 ((Ext.refl _).drew.trans x1) | go_keep) (first | (go_at_call 28; refine (C1 _).mono ?_; rintro e w1 ⟨rfl, x1⟩))
    have x1' := Ext.trans (Ext.refl W).drew x1
    replace h2 := h2.ext x1'
    obtain ⟨d0, d1⟩ := h2.cells
    obtain ⟨f0, f1⟩ := h2.free
    clear c0 c1 c2 c3 c4 c5
    go_wp2_with fail
    obtain ⟨r1, r2, r3⟩ := hr.out
    rw [r1, r2, r3]
    refine bodyPost_ret (v := .tuple #[decV 0 0, .bool true]) ?_ rfl ⟨rfl, ext_setDec (hx.trans x1') (Nat.le_succ _) _ _⟩
    obtain ⟨e0, e1⟩ := (h2.stored 0 0).cells
    change (results Try.f26 _).run Try.prog (setDec w1 (w.heap.size + 1) 0 0) = .ok _ (setDec w1 (w.heap.size + 1) 0 0)
    generalize setDec w1 (w.heap.size + 1) 0 0 = W' at *
    simp [results, Try.results26, go_sem, e0, e1, decV]
  · have E : ∀ w, (Op.equalIn 10000 44 (.agg #[.int .u64 (wd N 0 : Int), .int .u64 (wd N 1 : Int), .int .u64 (wd N 2 : Int), .int .u64 (wd N 3 : Int)]) (.agg #[.int .u64 0, .int .u64 0, .int .u64 0, .int .u64 0])).run Try.prog w = .ok false w := fun w => by rw [eql_wide0 N hN w, decide_eq_false h0]
    clear h0
    unfold numV
    go_enter Try.func26, Try.ntmps26
    go_wp2_with fail
    generalize ((w.alloc (.cells #[.bool neg, .int .u64 (wd N 0 : Int), .int .u64 (wd N 1 : Int), .int .u64 (wd N 2 : Int), .int .u64 (wd N 3 : Int), .int .i64 s] 46)).alloc (.cells #[.int .i64 0, .int .i64 0] 25)) = W at *
    obtain ⟨c0, c1, c2, c3, c4, c5⟩ := h1.cells
    go_region_held3 (fun w' => w'.cell? ⟨w.heap.size, 1, none⟩ = some (.int .u64 (wd N 0 : Int)) ∧ w'.cell? ⟨w.heap.size, 2, none⟩ = some (.int .u64 (wd N 1 : Int)) ∧ w'.cell? ⟨w.heap.size, 3, none⟩ = some (.int .u64 (wd N 2 : Int)) ∧ w'.cell? ⟨w.heap.size, 4, none⟩ = some (.int .u64 (wd N 3 : Int))) (first | exact numW_keep h1 ((Ext.refl _).drew.trans x1) | go_keep) (first | (go_at_call 28; refine (C1 _).mono ?_; rintro e w1 ⟨rfl, x1⟩))
    have x1' := Ext.trans (Ext.refl W).drew x1
    replace h1 := h1.ext x1'
    replace h2 := h2.ext x1'
    clear c0 c1 c2 c3 c4 c5
    go_wp2_with fail
    go_loopw [] (fun wr => ∃ N' s' : Nat, N' < W256 ∧ s' < 1000 ∧ Hid (strip N' s' = strip N s) ∧ NumIn w.heap.size neg N' s' wr ∧ DecIn (w.heap.size + 1) 0 0 wr ∧ Ext w wr) (fun wr => scaleOf wr w.heap.size)
    case atStart => exact ⟨N, s, hN, hs, rfl, h1, h2, hx.trans x1'⟩
    case round =>
      obtain ⟨N', s', l1, l2, hst, g1, g2, hxr⟩ := hrel
      obtain ⟨c0, c1, c2, c3, c4, c5⟩ := g1.cells
      by_cases hs0 : 0 < s'
      · by_cases hz : N' % 10 = 0
        · have T : ∀ w, Calls Try.prog 47 #[.agg #[.int .u64 (wd N' 0 : Int), .int .u64 (wd N' 1 : Int), .int .u64 (wd N' 2 : Int), .int .u64 (wd N' 3 : Int)]] w fun e w' => e = .returned (.tuple #[.agg #[.int .u64 (wd (N' / 10) 0 : Int), .int .u64 (wd (N' / 10) 1 : Int), .int .u64 (wd (N' / 10) 2 : Int), .int .u64 (wd (N' / 10) 3 : Int)], .int .u64 0]) ∧ Ext w w' := fun w => by
            have := tenth_any N' w l1
            rw [hz] at this
            exact this
          have hst' : Hid (strip (N' / 10) (s' - 1) = strip N s) := by
            have h := hst.out
            rw [show s' = (s' - 1) + 1 from by omega, strip, if_pos hz] at h
            exact h
          go_wp2_with fail
          refine (T _).mono ?_
          rintro e w2 ⟨rfl, x2⟩
          have m1 := g1
          replace g1 := g1.ext x2
          replace g2 := g2.ext x2
          replace hxr := hxr.trans x2
          clear c0 c1 c2 c3 c4 c5
          obtain ⟨c0, c1, c2, c3, c4, c5⟩ := g1.cells
          obtain ⟨f0, f1, f2, f3, f4, f5⟩ := g1.free
          have hlt : w.heap.size < w2.heap.size := (Array.getElem?_eq_some_iff.1 g1).1
          go_wp2_with fail
          have hsub : ((s' : Int) - 1) = ((s' - 1 : Nat) : Int) := by omega
          have K : NumIn w.heap.size neg (N' / 10) ((s' : Int) - 1) (((setNumW w2 w.heap.size (N' / 10)).setCell ⟨w.heap.size, 5, none⟩ (.int .i64 ((s' : Int) - 1))).alloc (.cells #[.int .u64 (wd (N' / 10) 0 : Int), .int .u64 (wd (N' / 10) 1 : Int), .int .u64 (wd (N' / 10) 2 : Int), .int .u64 (wd (N' / 10) 3 : Int)] 44)) := ((g1.storedW (N' / 10)).storedS _).ext ((Ext.refl _).alloc _)
          have k : DecIn (w.heap.size + 1) 0 0 ((setNumW w2 w.heap.size (N' / 10)).setCell ⟨w.heap.size, 5, none⟩ (.int .i64 ((s' : Int) - 1))) := (Below.heap_setCell _ _ _ _ (by simp)).trans ((heap_setNumW _ _ _ _ (by omega)).trans g2)
          have K2 : DecIn (w.heap.size + 1) 0 0 (((setNumW w2 w.heap.size (N' / 10)).setCell ⟨w.heap.size, 5, none⟩ (.int .i64 ((s' : Int) - 1))).alloc (.cells #[.int .u64 (wd (N' / 10) 0 : Int), .int .u64 (wd (N' / 10) 1 : Int), .int .u64 (wd (N' / 10) 2 : Int), .int .u64 (wd (N' / 10) 3 : Int)] 44)) := k.ext ((Ext.refl _).alloc _)
          refine ⟨⟨N' / 10, s' - 1, by omega, by omega, hst', ?_, ?_, ?_⟩, ?_⟩
          · rw [← hsub]; exact K
          · exact K2
          · exact (ext_setCell (ext_setNumW hxr (Nat.le_refl _) _) (Nat.le_refl _) _).alloc _
          · exact scale_lt K m1 (by omega)
        · obtain ⟨r, hr⟩ : ∃ r, r = N' % 10 := ⟨_, rfl⟩
          have T : ∀ w, Calls Try.prog 47 #[.agg #[.int .u64 (wd N' 0 : Int), .int .u64 (wd N' 1 : Int), .int .u64 (wd N' 2 : Int), .int .u64 (wd N' 3 : Int)]] w fun e w' => e = .returned (.tuple #[.agg #[.int .u64 (wd (N' / 10) 0 : Int), .int .u64 (wd (N' / 10) 1 : Int), .int .u64 (wd (N' / 10) 2 : Int), .int .u64 (wd (N' / 10) 3 : Int)], .int .u64 (r : Int)]) ∧ Ext w w' := fun w => by
            rw [hr]
            exact tenth_any N' w l1
          rw [← hr] at hz
          replace hst : Hid ((N', s') = strip N s) := by
            have h := hst.out
            rw [show s' = (s' - 1) + 1 from by omega, strip, if_neg (by omega)] at h
            rw [← h]; exact Lib.hid (by rw [show s' - 1 + 1 = s' from by omega])
          have hr1 : 0 < r := by omega
          clear hr hz
          go_wp2_with fail
          refine (T _).mono ?_
          rintro e w2 ⟨rfl, x2⟩
          go_wp2_with fail
          have x3 := x2.alloc (.cells #[.int .u64 (wd (N' / 10) 0 : Int), .int .u64 (wd (N' / 10) 1 : Int), .int .u64 (wd (N' / 10) 2 : Int), .int .u64 (wd (N' / 10) 3 : Int)] 44)
          replace g1 := g1.ext x3
          replace g2 := g2.ext x3
          replace hxr := hxr.trans x3
          generalize w2.alloc (.cells #[.int .u64 (wd (N' / 10) 0 : Int), .int .u64 (wd (N' / 10) 1 : Int), .int .u64 (wd (N' / 10) 2 : Int), .int .u64 (wd (N' / 10) 3 : Int)] 44) = WQ at *
          clear x2 x3
          clear c0 c1 c2 c3 c4 c5
          obtain ⟨c0, c1, c2, c3, c4, c5⟩ := g1.cells
          by_cases hb : s' ≤ 18
          · have G : binOp .gtr 3 (.int .i64 (s' : Int)) (.int .i64 18) = pure (.bool false) := by
              simp only [go_sem]; rw [show decide ((s' : Int) > 18) = false from by simp only [decide_eq_false_iff_not]; omega]
            have C2 : ∀ w, Calls Try.prog 28 #[.int .u64 9223372036854775807] w fun e w' => e = .returned (.agg #[.int .u64 9223372036854775807, .int .u64 0, .int .u64 0, .int .u64 0]) ∧ Ext w w' := fun w => of_any 9223372036854775807 w (by decide)
            have C3 : ∀ w, Calls Try.prog 45 #[.agg #[.int .u64 (wd N' 0 : Int), .int .u64 (wd N' 1 : Int), .int .u64 (wd N' 2 : Int), .int .u64 (wd N' 3 : Int)], .agg #[.int .u64 9223372036854775807, .int .u64 0, .int .u64 0, .int .u64 0]] w fun e w' => e = .returned (.int .i64 (cmpN N' 9223372036854775807)) ∧ Ext w w' := fun w => compare_any N' 9223372036854775807 w l1 (by decide)
            by_cases hm : N' ≤ 9223372036854775807
            · have G2 : binOp .gtr 3 (.int .i64 (cmpN N' 9223372036854775807)) (.int .i64 0) = pure (.bool false) := by
                unfold cmpN
                by_cases h : N' < 9223372036854775807
                · rw [if_pos h]; rfl
                · rw [if_neg h, if_neg (by omega)]; rfl
              have hw0 : Hid (wd N' 0 = N') := Lib.hid (by rw [wd0]; omega)
              have HM := Lib.hid (And.intro hb hm)
              generalize cmpN N' 9223372036854775807 = c at *
              clear hb hm
              go_wp2_with fail
              go_region_held3 (fun w' => w'.cell? ⟨w.heap.size, 1, none⟩ = some (.int .u64 (wd N' 0 : Int)) ∧ w'.cell? ⟨w.heap.size, 2, none⟩ = some (.int .u64 (wd N' 1 : Int)) ∧ w'.cell? ⟨w.heap.size, 3, none⟩ = some (.int .u64 (wd N' 2 : Int)) ∧ w'.cell? ⟨w.heap.size, 4, none⟩ = some (.int .u64 (wd N' 3 : Int)) ∧ w'.cell? ⟨w.heap.size, 5, none⟩ = some (.int .i64 s')) (first | exact dec_keep g1 (((Ext.refl _).drew.trans x5).trans x6) | exact dec_keep g1 ((Ext.refl _).drew.trans x5) | exact dec_keep g1 (Ext.refl _).drew | go_keep) (first | (go_at_call 28; refine (C2 _).mono ?_; rintro e w5 ⟨rfl, x5⟩) | (go_at_call 45; refine (C3 _).mono ?_; rintro e w6 ⟨rfl, x6⟩))
              have x7 := ((Ext.refl _).drew.trans x5).trans x6
              replace g1 := g1.ext x7
              replace g2 := g2.ext x7
              replace hxr := hxr.trans x7
              obtain ⟨d0, d1⟩ := g2.cells
              obtain ⟨f0, f1⟩ := g2.free
              obtain ⟨k0, k1, k2, k3, k4, k5⟩ := g1.cells
              have hv : wrap64 ((wd N' 0 : Nat) : Int) = (N' : Int) := by rw [hw0.out]; exact IntWalk.wrap64_in _ (by obtain ⟨_, q2⟩ := HM.out; omega)
              clear hw0 c1 k1 k2 k3 k4
              have hn2 : wrap64 (-(N' : Int)) = -(N' : Int) := IntWalk.wrap64_in _ (by obtain ⟨_, q2⟩ := HM.out; omega)
              cases neg
              · go_wp2_with fail
                refine bodyPost_ret (v := .tuple #[decV N' s', .bool true]) ?_ rfl ⟨?_, ext_setDec hxr (Nat.le_succ _) _ _⟩
                · obtain ⟨e0, e1⟩ := (g2.stored N' s').cells
                  change (results Try.f26 _).run Try.prog (setDec w6 (w.heap.size + 1) N' s') = .ok _ (setDec w6 (w.heap.size + 1) N' s')
                  generalize setDec w6 (w.heap.size + 1) N' s' = W' at *
                  simp [results, Try.results26, go_sem, e0, e1, decV]
                · obtain ⟨q1, q2⟩ := HM.out
                  have hok : decOk N s = true := by unfold decOk; rw [← hst.out]; exact decide_eq_true ⟨q1, q2⟩
                  unfold decMv decSv
                  rw [hok, ← hst.out]; rfl
              · go_wp2_with fail
                refine bodyPost_ret (v := .tuple #[decV (-(N' : Int)) s', .bool true]) ?_ rfl ⟨?_, ext_setDec hxr (Nat.le_succ _) _ _⟩
                · obtain ⟨e0, e1⟩ := (g2.stored (-(N' : Int)) s').cells
                  change (results Try.f26 _).run Try.prog (setDec w6 (w.heap.size + 1) (-(N' : Int)) s') = .ok _ (setDec w6 (w.heap.size + 1) (-(N' : Int)) s')
                  generalize setDec w6 (w.heap.size + 1) (-(N' : Int)) s' = W' at *
                  simp [results, Try.results26, go_sem, e0, e1, decV]
                · obtain ⟨q1, q2⟩ := HM.out
                  have hok : decOk N s = true := by unfold decOk; rw [← hst.out]; exact decide_eq_true ⟨q1, q2⟩
                  unfold decMv decSv
                  rw [hok, ← hst.out]; rfl
            · have G2 : binOp .gtr 3 (.int .i64 (cmpN N' 9223372036854775807)) (.int .i64 0) = pure (.bool true) := by
                rw [cmpN_gt (by omega)]; rfl
              generalize cmpN N' 9223372036854775807 = c at *
              go_wp2_with fail
              go_region_held3 (fun w' => w'.cell? ⟨w.heap.size, 1, none⟩ = some (.int .u64 (wd N' 0 : Int)) ∧ w'.cell? ⟨w.heap.size, 2, none⟩ = some (.int .u64 (wd N' 1 : Int)) ∧ w'.cell? ⟨w.heap.size, 3, none⟩ = some (.int .u64 (wd N' 2 : Int)) ∧ w'.cell? ⟨w.heap.size, 4, none⟩ = some (.int .u64 (wd N' 3 : Int)) ∧ w'.cell? ⟨w.heap.size, 5, none⟩ = some (.int .i64 s')) (first | exact dec_keep g1 (((Ext.refl _).drew.trans x5).trans x6) | exact dec_keep g1 ((Ext.refl _).drew.trans x5) | exact dec_keep g1 (Ext.refl _).drew | go_keep) (first | (go_at_call 28; refine (C2 _).mono ?_; rintro e w5 ⟨rfl, x5⟩) | (go_at_call 45; refine (C3 _).mono ?_; rintro e w6 ⟨rfl, x6⟩))
              have x7 := ((Ext.refl _).drew.trans x5).trans x6
              replace g1 := g1.ext x7
              replace g2 := g2.ext x7
              replace hxr := hxr.trans x7
              obtain ⟨d0, d1⟩ := g2.cells
              obtain ⟨f0, f1⟩ := g2.free
              go_wp2_with fail
              refine bodyPost_ret (v := .tuple #[decV 0 0, .bool false]) ?_ rfl ⟨?_, ext_setDec hxr (Nat.le_succ _) _ _⟩
              · obtain ⟨e0, e1⟩ := (g2.stored 0 0).cells
                change (results Try.f26 _).run Try.prog (setDec w6 (w.heap.size + 1) 0 0) = .ok _ (setDec w6 (w.heap.size + 1) 0 0)
                generalize setDec w6 (w.heap.size + 1) 0 0 = W' at *
                simp [results, Try.results26, go_sem, e0, e1, decV]
              · have hok : decOk N s = false := by unfold decOk; rw [← hst.out]; exact decide_eq_false (by simp only []; omega)
                unfold decMv decSv
                rw [hok]; rfl
          · have G : binOp .gtr 3 (.int .i64 (s' : Int)) (.int .i64 18) = pure (.bool true) := by
              simp only [go_sem]; rw [show decide ((s' : Int) > 18) = true from by simp only [decide_eq_true_eq]; omega]
            go_wp2_with fail
            go_quiet (fail)
            replace g2 := g2.ext ((Ext.refl _).drewN nq)
            obtain ⟨d0, d1⟩ := g2.cells
            obtain ⟨f0, f1⟩ := g2.free
            go_wp2_with fail
            refine bodyPost_ret (v := .tuple #[decV 0 0, .bool false]) ?_ rfl ⟨?_, ext_setDec (hxr.drewN nq) (Nat.le_succ _) _ _⟩
            · obtain ⟨e0, e1⟩ := (g2.stored 0 0).cells
              change (results Try.f26 _).run Try.prog (setDec (WQ.drewN nq) (w.heap.size + 1) 0 0) = .ok _ (setDec (WQ.drewN nq) (w.heap.size + 1) 0 0)
              generalize setDec (WQ.drewN nq) (w.heap.size + 1) 0 0 = W' at *
              simp [results, Try.results26, go_sem, e0, e1, decV]
            · have hok : decOk N s = false := by unfold decOk; rw [← hst.out]; exact decide_eq_false (by simp only []; omega)
              unfold decMv decSv
              rw [hok]; rfl
      · replace hst : Hid ((N', s') = strip N s) := by
          have h := hst.out
          rw [show s' = 0 from by omega, strip] at h
          rw [← h]; exact Lib.hid (by rw [show s' = 0 from by omega])
        clear c0 c1 c2 c3 c4 c5
        obtain ⟨c0, c1, c2, c3, c4, c5⟩ := g1.cells
        by_cases hb : s' ≤ 18
        · have G : binOp .gtr 3 (.int .i64 (s' : Int)) (.int .i64 18) = pure (.bool false) := by
            simp only [go_sem]; rw [show decide ((s' : Int) > 18) = false from by simp only [decide_eq_false_iff_not]; omega]
          have C2 : ∀ w, Calls Try.prog 28 #[.int .u64 9223372036854775807] w fun e w' => e = .returned (.agg #[.int .u64 9223372036854775807, .int .u64 0, .int .u64 0, .int .u64 0]) ∧ Ext w w' := fun w => of_any 9223372036854775807 w (by decide)
          have C3 : ∀ w, Calls Try.prog 45 #[.agg #[.int .u64 (wd N' 0 : Int), .int .u64 (wd N' 1 : Int), .int .u64 (wd N' 2 : Int), .int .u64 (wd N' 3 : Int)], .agg #[.int .u64 9223372036854775807, .int .u64 0, .int .u64 0, .int .u64 0]] w fun e w' => e = .returned (.int .i64 (cmpN N' 9223372036854775807)) ∧ Ext w w' := fun w => compare_any N' 9223372036854775807 w l1 (by decide)
          by_cases hm : N' ≤ 9223372036854775807
          · have G2 : binOp .gtr 3 (.int .i64 (cmpN N' 9223372036854775807)) (.int .i64 0) = pure (.bool false) := by
              unfold cmpN
              by_cases h : N' < 9223372036854775807
              · rw [if_pos h]; rfl
              · rw [if_neg h, if_neg (by omega)]; rfl
            have hw0 : Hid (wd N' 0 = N') := Lib.hid (by rw [wd0]; omega)
            have HM := Lib.hid (And.intro hb hm)
            generalize cmpN N' 9223372036854775807 = c at *
            clear hb hm
            go_wp2_with fail
            go_region_held3 (fun w' => w'.cell? ⟨w.heap.size, 1, none⟩ = some (.int .u64 (wd N' 0 : Int)) ∧ w'.cell? ⟨w.heap.size, 2, none⟩ = some (.int .u64 (wd N' 1 : Int)) ∧ w'.cell? ⟨w.heap.size, 3, none⟩ = some (.int .u64 (wd N' 2 : Int)) ∧ w'.cell? ⟨w.heap.size, 4, none⟩ = some (.int .u64 (wd N' 3 : Int)) ∧ w'.cell? ⟨w.heap.size, 5, none⟩ = some (.int .i64 s')) (first | exact dec_keep g1 (((Ext.refl _).drew.trans x5).trans x6) | exact dec_keep g1 ((Ext.refl _).drew.trans x5) | exact dec_keep g1 (Ext.refl _).drew | go_keep) (first | (go_at_call 28; refine (C2 _).mono ?_; rintro e w5 ⟨rfl, x5⟩) | (go_at_call 45; refine (C3 _).mono ?_; rintro e w6 ⟨rfl, x6⟩))
            have x7 := ((Ext.refl _).drew.trans x5).trans x6
            replace g1 := g1.ext x7
            replace g2 := g2.ext x7
            replace hxr := hxr.trans x7
            obtain ⟨d0, d1⟩ := g2.cells
            obtain ⟨f0, f1⟩ := g2.free
            obtain ⟨k0, k1, k2, k3, k4, k5⟩ := g1.cells
            have hv : wrap64 ((wd N' 0 : Nat) : Int) = (N' : Int) := by rw [hw0.out]; exact IntWalk.wrap64_in _ (by obtain ⟨_, q2⟩ := HM.out; omega)
            clear hw0 c1 k1 k2 k3 k4
            have hn2 : wrap64 (-(N' : Int)) = -(N' : Int) := IntWalk.wrap64_in _ (by obtain ⟨_, q2⟩ := HM.out; omega)
            cases neg
            · go_wp2_with fail
              refine bodyPost_ret (v := .tuple #[decV N' s', .bool true]) ?_ rfl ⟨?_, ext_setDec hxr (Nat.le_succ _) _ _⟩
              · obtain ⟨e0, e1⟩ := (g2.stored N' s').cells
                change (results Try.f26 _).run Try.prog (setDec w6 (w.heap.size + 1) N' s') = .ok _ (setDec w6 (w.heap.size + 1) N' s')
                generalize setDec w6 (w.heap.size + 1) N' s' = W' at *
                simp [results, Try.results26, go_sem, e0, e1, decV]
              · obtain ⟨q1, q2⟩ := HM.out
                have hok : decOk N s = true := by unfold decOk; rw [← hst.out]; exact decide_eq_true ⟨q1, q2⟩
                unfold decMv decSv
                rw [hok, ← hst.out]; rfl
            · go_wp2_with fail
              refine bodyPost_ret (v := .tuple #[decV (-(N' : Int)) s', .bool true]) ?_ rfl ⟨?_, ext_setDec hxr (Nat.le_succ _) _ _⟩
              · obtain ⟨e0, e1⟩ := (g2.stored (-(N' : Int)) s').cells
                change (results Try.f26 _).run Try.prog (setDec w6 (w.heap.size + 1) (-(N' : Int)) s') = .ok _ (setDec w6 (w.heap.size + 1) (-(N' : Int)) s')
                generalize setDec w6 (w.heap.size + 1) (-(N' : Int)) s' = W' at *
                simp [results, Try.results26, go_sem, e0, e1, decV]
              · obtain ⟨q1, q2⟩ := HM.out
                have hok : decOk N s = true := by unfold decOk; rw [← hst.out]; exact decide_eq_true ⟨q1, q2⟩
                unfold decMv decSv
                rw [hok, ← hst.out]; rfl
          · have G2 : binOp .gtr 3 (.int .i64 (cmpN N' 9223372036854775807)) (.int .i64 0) = pure (.bool true) := by
              rw [cmpN_gt (by omega)]; rfl
            generalize cmpN N' 9223372036854775807 = c at *
            go_wp2_with fail
            go_region_held3 (fun w' => w'.cell? ⟨w.heap.size, 1, none⟩ = some (.int .u64 (wd N' 0 : Int)) ∧ w'.cell? ⟨w.heap.size, 2, none⟩ = some (.int .u64 (wd N' 1 : Int)) ∧ w'.cell? ⟨w.heap.size, 3, none⟩ = some (.int .u64 (wd N' 2 : Int)) ∧ w'.cell? ⟨w.heap.size, 4, none⟩ = some (.int .u64 (wd N' 3 : Int)) ∧ w'.cell? ⟨w.heap.size, 5, none⟩ = some (.int .i64 s')) (first | exact dec_keep g1 (((Ext.refl _).drew.trans x5).trans x6) | exact dec_keep g1 ((Ext.refl _).drew.trans x5) | exact dec_keep g1 (Ext.refl _).drew | go_keep) (first | (go_at_call 28; refine (C2 _).mono ?_; rintro e w5 ⟨rfl, x5⟩) | (go_at_call 45; refine (C3 _).mono ?_; rintro e w6 ⟨rfl, x6⟩))
            have x7 := ((Ext.refl _).drew.trans x5).trans x6
            replace g1 := g1.ext x7
            replace g2 := g2.ext x7
            replace hxr := hxr.trans x7
            obtain ⟨d0, d1⟩ := g2.cells
            obtain ⟨f0, f1⟩ := g2.free
            go_wp2_with fail
            refine bodyPost_ret (v := .tuple #[decV 0 0, .bool false]) ?_ rfl ⟨?_, ext_setDec hxr (Nat.le_succ _) _ _⟩
            · obtain ⟨e0, e1⟩ := (g2.stored 0 0).cells
              change (results Try.f26 _).run Try.prog (setDec w6 (w.heap.size + 1) 0 0) = .ok _ (setDec w6 (w.heap.size + 1) 0 0)
              generalize setDec w6 (w.heap.size + 1) 0 0 = W' at *
              simp [results, Try.results26, go_sem, e0, e1, decV]
            · have hok : decOk N s = false := by unfold decOk; rw [← hst.out]; exact decide_eq_false (by simp only []; omega)
              unfold decMv decSv
              rw [hok]; rfl
        · exfalso; omega
end Go.Proofs.Ythfihlapgoglaaa
