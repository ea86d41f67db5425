/- The law PointParts answers true: the walk. -/
import Derived.Test.YtbkhdjbhijmghaaPtK
import Derived.Test.YtbkhdjbhijmghaaLawSum2
import Derived.Deep.DeepCutAuto
namespace Go.Proofs.Ytbkhdjbhijmghaa
open Go.RowKit

theorem PtIn.put0 {b : Nat} {v : Value} {r : Int} {f : Bool} {M S m s : Int} {t : Bool} {T : Int} {w : World} (h : PtIn b v r f M S m s t T w) (y : Value) : PtIn b y r f M S m s t T (w.setCell ⟨b, 0, none⟩ y) := by
  unfold PtIn at *
  simp [World.setCell, Array.getElem?_modify, h]
theorem PtIn.put1 {b : Nat} {v : Value} {r : Int} {f : Bool} {M S m s : Int} {t : Bool} {T : Int} {w : World} (h : PtIn b v r f M S m s t T w) (y : Int) : PtIn b v y f M S m s t T (w.setCell ⟨b, 1, none⟩ (.int .i64 y)) := by
  unfold PtIn at *
  simp [World.setCell, Array.getElem?_modify, h]
theorem PtIn.put2 {b : Nat} {v : Value} {r : Int} {f : Bool} {M S m s : Int} {t : Bool} {T : Int} {w : World} (h : PtIn b v r f M S m s t T w) (y : Bool) : PtIn b v r y M S m s t T (w.setCell ⟨b, 2, none⟩ (.bool y)) := by
  unfold PtIn at *
  simp [World.setCell, Array.getElem?_modify, h]
theorem PtIn.put3 {b : Nat} {v : Value} {r : Int} {f : Bool} {M S m s : Int} {t : Bool} {T : Int} {w : World} (h : PtIn b v r f M S m s t T w) (y : Int) : PtIn b v r f y S m s t T (w.setCell ⟨b, 3, none⟩ (.int .i64 y)) := by
  unfold PtIn at *
  simp [World.setCell, Array.getElem?_modify, h]
theorem PtIn.put4 {b : Nat} {v : Value} {r : Int} {f : Bool} {M S m s : Int} {t : Bool} {T : Int} {w : World} (h : PtIn b v r f M S m s t T w) (y : Int) : PtIn b v r f M y m s t T (w.setCell ⟨b, 4, none⟩ (.int .i64 y)) := by
  unfold PtIn at *
  simp [World.setCell, Array.getElem?_modify, h]
theorem PtIn.put7 {b : Nat} {v : Value} {r : Int} {f : Bool} {M S m s : Int} {t : Bool} {T : Int} {w : World} (h : PtIn b v r f M S m s t T w) (y : Bool) : PtIn b v r f M S m s y T (w.setCell ⟨b, 7, none⟩ (.bool y)) := by
  unfold PtIn at *
  simp [World.setCell, Array.getElem?_modify, h]
theorem PtIn.put8 {b : Nat} {v : Value} {r : Int} {f : Bool} {M S m s : Int} {t : Bool} {T : Int} {w : World} (h : PtIn b v r f M S m s t T w) (y : Int) : PtIn b v r f M S m s t y (w.setCell ⟨b, 8, none⟩ (.int .i64 y)) := by
  unfold PtIn at *
  simp [World.setCell, Array.getElem?_modify, h]
theorem PtIn.far {b : Nat} {v : Value} {r : Int} {f : Bool} {M S m s : Int} {t : Bool} {T : Int} {w : World} (h : PtIn b v r f M S m s t T w) {p : Addr} (hp : b ≠ p.block) (u : Value) : PtIn b v r f M S m s t T (w.setCell p u) := (Below.heap_setCell _ _ _ _ hp).trans h
theorem PtIn.free {b : Nat} {v : Value} {r : Int} {f : Bool} {M S m s : Int} {t : Bool} {T : Int} {w : World} (h : PtIn b v r f M S m s t T w) (i : Nat) : w.frozen? ⟨b, i, none⟩ = false := Lib.frozen_of_heap h i
theorem cmpBytes_self : ∀ (l : List UInt8), Lib.compareBytes l l = 0 := fun l => (cmpBytes_zero l l).2 rfl
theorem cmpS_self (a : ByteArray) : cmpS a a = 0 := (cmpS_zero a a).2 rfl
theorem cmpLs_self : ∀ (l : List (ByteArray × ByteArray)), cmpLs l l = 0
  | [] => rfl
  | x :: l => by
    have h : cmpL x x = 0 := by unfold cmpL; simp only [cmpS_self]; rfl
    unfold cmpLs
    rw [if_neg (by rw [h]; decide)]
    exact cmpLs_self l
theorem dec_lt {x y : Int} (hx : -2147483648 ≤ x ∧ x ≤ 2147483647) (hy : -2147483648 ≤ y ∧ y ≤ 2147483647) (h : x < y) : cmpD (cM x 0) (cS x 0) (cM y 0) (cS y 0) = -1 ∧ cmpD (cM y 0) (cS y 0) (cM x 0) (cS x 0) = 1 := by
  have g : ∀ z : Int, -2147483648 ≤ z ∧ z ≤ 2147483647 → goodB z 0 = true := fun z hz => good_mk (by omega) (by omega) (by omega) (.inl rfl)
  rw [(cM_good (g x hx)).1, (cM_good (g x hx)).2, (cM_good (g y hy)).1, (cM_good (g y hy)).2]
  rw [cmp_is _ _ _ _ (by omega) (by omega), cmp_is _ _ _ _ (by omega) (by omega)]
  unfold v18 sg
  rw [show (18 - (0 : Int)).toNat = 18 from rfl]
  simp only [Int.reducePow]
  constructor <;> (repeat' split) <;> omega
theorem cmpI_self (x : Int) : cmpI x x = 0 := by unfold cmpI; rw [if_neg (by omega), if_neg (by omega)]
theorem cmpB_self (x : Bool) : cmpB x x = 0 := by cases x <;> rfl

theorem lab1_at (wc w2 : World) (o : Obj) (hs : w2.heap.size = wc.heap.size) (n v : ByteArray) (h : o = .cells #[.string n, .string v] 30 := by rfl) : LabA (some ⟨wc.heap.size, 0, none⟩) [(n, v)] (w2.alloc o) := fun _ => by
  subst h
  refine ⟨wc.heap.size, 0, rfl, by rw [heap_size_alloc, hs]; omega, fun i hi => ?_⟩
  have hi0 : i = 0 := by simp at hi; omega
  subst hi0
  have := heap_last w2 (.cells #[.string n, .string v] 30)
  rw [hs] at this
  exact ⟨(Lib.cell_of_heap this _).trans rfl, (Lib.cell_of_heap this _).trans rfl⟩

set_option maxHeartbeats 40000000 in
set_option maxRecDepth 100000 in
theorem PointParts_main (a0 : Option Addr) (c : Nat) (l : List (ByteArray × ByteArray)) (r : Int) (f : Bool) (M S m s : Int) (t : Bool) (T : Int) (part a b : Int) (w : World)
    (hl : (l.length : Int) ≤ 9223372036854775807) (hA : LabA a0 l w) (hz : ∀ x ∈ l, x.1.size ≤ 9223372036854775807 ∧ x.2.size ≤ 9223372036854775807) (i1 : I64 M) (j1 : I64 S)
    (hp : 0 ≤ part ∧ part ≤ 255) (ha : -2147483648 ≤ a ∧ a ≤ 2147483647) (hb : -2147483648 ≤ b ∧ b ≤ 2147483647) :
    Calls Try.prog 3 #[ptV (.slice a0 l.length c) r f M S m s t T, .int .u8 part, .int .i32 a, .int .i32 b] w fun e w' => e = .returned (.bool true) ∧ Ext w w' := by
  have SH := fun W (x : Ext w W) => short_any a0 c l r f M S m s t T W hl (hA.ext x) hz
  obtain ⟨sh, hsh⟩ : ∃ x, shortL l = x := ⟨_, rfl⟩
  rw [hsh] at SH
  unfold ptV at *
  have g1 : PtIn w.heap.size (.slice a0 l.length c) r f M S m s t T (w.alloc (.cells #[.slice a0 l.length c, .int .i64 r, .bool f, .int .i64 M, .int .i64 S, .int .i64 m, .int .i64 s, .bool t, .int .i64 T] 26)) := heap_last _ _
  have hx : Ext w (w.alloc (.cells #[.slice a0 l.length c, .int .i64 r, .bool f, .int .i64 M, .int .i64 S, .int .i64 m, .int .i64 s, .bool t, .int .i64 T] 26)) := (Ext.refl _).alloc _
  go_enter Try.func3, Try.ntmps3
  go_wp2_with fail
  (with_reducible refine (known_any _).mono ?_)
  rintro e w1 ⟨rfl, x1⟩
  replace g1 := g1.ext x1
  replace hx := hx.trans x1
  clear x1
  obtain ⟨k0, k1, k2, k3, k4, k5, k6, k7, k8⟩ := g1.cells
  go_wp2_with fail
  (with_reducible refine (SH _ hx).mono ?_)
  rintro e w2 ⟨rfl, x1⟩
  replace g1 := g1.ext x1
  replace hx := hx.trans x1
  clear x1 k0 k1 k2 k3 k4 k5 k6 k7 k8 hsh SH hz
  obtain ⟨k0, k1, k2, k3, k4, k5, k6, k7, k8⟩ := g1.cells
  cases sh
  · go_wp2_with fail
    go_ret
    exact ⟨rfl, hx⟩
  by_cases hab : a = b
  · subst hab
    go_wp2_with fail
    go_ret
    exact ⟨rfl, hx⟩
  go_wp2_with fail
  have hlo : min a b < max a b := by omega
  have hlo1 : -2147483648 ≤ min a b ∧ min a b ≤ 2147483647 := by omega
  have hhi1 : -2147483648 ≤ max a b ∧ max a b ≤ 2147483647 := by omega
  generalize min a b = lo at *
  generalize max a b = hi at *
  clear ha hb hab
  go_cut [11, 12] (fun u v wx => ∃ bX bY, u = .pointer (some ⟨bX, 0, none⟩) ∧ v = .pointer (some ⟨bY, 0, none⟩) ∧ bX ≠ bY ∧ w.heap.size < bX ∧ w.heap.size < bY ∧ PtIn bX (.slice a0 l.length c) r f M S m s t T wx ∧ PtIn bY (.slice a0 l.length c) r f M S m s t T wx ∧ Ext w wx)
  case first =>
    have hsz : w.heap.size < w2.heap.size := (Array.getElem?_eq_some_iff.1 g1).1
    go_region
    all_goals
      go_wp2_with fail
      go_meet
      case rel =>
        first
          | exact ⟨_, _, rfl, rfl, by omega, by omega, by omega, heap_at2a _ _ _, heap_at2b _ _ _, ((hx.alloc _).alloc _).drew⟩
          | exact ⟨_, _, rfl, rfl, by omega, by omega, by omega, heap_at2b _ _ _, heap_at2a _ _ _, ((hx.alloc _).alloc _).drew⟩
  case rest =>
  obtain ⟨bX, bY, rfl, rfl, hne, hbX, hbY, hX, hY, xc⟩ := hcut
  replace hx := xc
  clear g1 k0 k1 k2 k3 k4 k5 k6 k7 k8 xc
  obtain ⟨c0, c1, c2, c3, c4, c5, c6, c7, c8⟩ := hX.cells
  obtain ⟨d0, d1, d2, d3, d4, d5, d6, d7, d8⟩ := hY.cells
  have fX0 := hX.free 0
  have fY0 := hY.free 0
  have fX1 := hX.free 1
  have fY1 := hY.free 1
  have fX3 := hX.free 3
  have fY3 := hY.free 3
  have fX4 := hX.free 4
  have fY4 := hY.free 4
  have fX7 := hX.free 7
  have fY7 := hY.free 7
  have fX8 := hX.free 8
  have fY8 := hY.free 8
  have lX : bX < wc.heap.size := (Array.getElem?_eq_some_iff.1 hX).1
  have lY : bY < wc.heap.size := (Array.getElem?_eq_some_iff.1 hY).1
  by_cases p0 : part % 5 = 0
  · have iX := i1
    have jX := j1
    have iY := i1
    have jY := j1
    have hX2 : PtIn bX (.slice none 0 0) r f M S m s t T (((wc.setCell ⟨bX, 0, none⟩ (.slice none 0 0)).setCell ⟨bY, 0, none⟩ (.slice (some ⟨wc.heap.size, 0, none⟩) 1 1)).alloc (.cells #[.string ⟨#[97]⟩, .string ⟨#[]⟩] 30)) := PtIn.ext (PtIn.far (PtIn.put0 hX (.slice none 0 0)) hne _) ((Ext.refl _).alloc _)
    have hY2 : PtIn bY (.slice (some ⟨wc.heap.size, 0, none⟩) 1 1) r f M S m s t T (((wc.setCell ⟨bX, 0, none⟩ (.slice none 0 0)).setCell ⟨bY, 0, none⟩ (.slice (some ⟨wc.heap.size, 0, none⟩) 1 1)).alloc (.cells #[.string ⟨#[97]⟩, .string ⟨#[]⟩] 30)) := PtIn.ext (PtIn.put0 (PtIn.far hY hne.symm _) (.slice (some ⟨wc.heap.size, 0, none⟩) 1 1)) ((Ext.refl _).alloc _)
    have hx2 : Ext w (((wc.setCell ⟨bX, 0, none⟩ (.slice none 0 0)).setCell ⟨bY, 0, none⟩ (.slice (some ⟨wc.heap.size, 0, none⟩) 1 1)).alloc (.cells #[.string ⟨#[97]⟩, .string ⟨#[]⟩] 30)) := Ext.alloc (ext_setCell (ext_setCell hx (Nat.le_of_lt hbX) _) (Nat.le_of_lt hbY) _) _
    have hlab : LabA (some ⟨wc.heap.size, 0, none⟩) [((⟨#[97]⟩ : ByteArray), (⟨#[]⟩ : ByteArray))] (((wc.setCell ⟨bX, 0, none⟩ (.slice none 0 0)).setCell ⟨bY, 0, none⟩ (.slice (some ⟨wc.heap.size, 0, none⟩) 1 1)).alloc (.cells #[.string ⟨#[97]⟩, .string ⟨#[]⟩] 30)) := lab1_at wc _ _ (by simp [World.setCell]) _ _
    clear c1 c2 c3 c4 c5 c6 c7 c8 d1 d2 d3 d4 d5 d6 d7 d8 fX1 fX3 fX4 fX7 fX8 fY1 fY3 fY4 fY7 fY8
    go_upto_region 17 with fail
    generalize (((wc.setCell ⟨bX, 0, none⟩ (.slice none 0 0)).setCell ⟨bY, 0, none⟩ (.slice (some ⟨wc.heap.size, 0, none⟩) 1 1)).alloc (.cells #[.string ⟨#[97]⟩, .string ⟨#[]⟩] 30)) = W2 at *
    clear c0 d0 fX0 fY0 lX lY hX hY
    have q1 : cmpP [] r f M S t T [((⟨#[97]⟩ : ByteArray), (⟨#[]⟩ : ByteArray))] r f M S t T = -1 := rfl
    have q2 : cmpP [((⟨#[97]⟩ : ByteArray), (⟨#[]⟩ : ByteArray))] r f M S t T [] r f M S t T = 1 := rfl
    have LA1 : ∀ W, Ext W2 W → LabA none [] W := fun W x => LabA.nil _ _
    have LA2 : ∀ W, Ext W2 W → LabA (some ⟨wc.heap.size, 0, none⟩) [((⟨#[97]⟩ : ByteArray), (⟨#[]⟩ : ByteArray))] W := fun W x => hlab.ext x
    have C1 : ∀ W, Ext W2 W → Calls Try.prog 7 #[.agg #[.slice none 0 0, .int .i64 r, .bool f, .int .i64 M, .int .i64 S, .int .i64 m, .int .i64 s, .bool t, .int .i64 T], .agg #[.slice (some ⟨wc.heap.size, 0, none⟩) 1 1, .int .i64 r, .bool f, .int .i64 M, .int .i64 S, .int .i64 m, .int .i64 s, .bool t, .int .i64 T]] W fun e w' => e = .returned (.int .i64 (-1)) ∧ Ext W w' := fun W x => by
      have := ptCompare_any none (some ⟨wc.heap.size, 0, none⟩) 0 1 [] [((⟨#[97]⟩ : ByteArray), (⟨#[]⟩ : ByteArray))] r f M S m s t T r f M S m s t T W (by simp) (by simp) (LA1 W x) (LA2 W x) (iX) (jX) (iY) (jY)
      rw [q1] at this
      exact this
    have C2 : ∀ W, Ext W2 W → Calls Try.prog 7 #[.agg #[.slice (some ⟨wc.heap.size, 0, none⟩) 1 1, .int .i64 r, .bool f, .int .i64 M, .int .i64 S, .int .i64 m, .int .i64 s, .bool t, .int .i64 T], .agg #[.slice none 0 0, .int .i64 r, .bool f, .int .i64 M, .int .i64 S, .int .i64 m, .int .i64 s, .bool t, .int .i64 T]] W fun e w' => e = .returned (.int .i64 1) ∧ Ext W w' := fun W x => by
      have := ptCompare_any (some ⟨wc.heap.size, 0, none⟩) none 1 0 [((⟨#[97]⟩ : ByteArray), (⟨#[]⟩ : ByteArray))] [] r f M S m s t T r f M S m s t T W (by simp) (by simp) (LA2 W x) (LA1 W x) (iY) (jY) (iX) (jX)
      rw [q2] at this
      exact this
    have C3 : ∀ W, Ext W2 W → Calls Try.prog 8 #[.agg #[.slice none 0 0, .int .i64 r, .bool f, .int .i64 M, .int .i64 S, .int .i64 m, .int .i64 s, .bool t, .int .i64 T], .agg #[.slice (some ⟨wc.heap.size, 0, none⟩) 1 1, .int .i64 r, .bool f, .int .i64 M, .int .i64 S, .int .i64 m, .int .i64 s, .bool t, .int .i64 T]] W fun e w' => e = .returned (.bool false) ∧ Ext W w' := fun W x => by
      have := ptSame_any none (some ⟨wc.heap.size, 0, none⟩) 0 1 [] [((⟨#[97]⟩ : ByteArray), (⟨#[]⟩ : ByteArray))] r f M S m s t T r f M S m s t T W (by simp) (by simp) (LA1 W x) (LA2 W x) (iX) (jX) (iY) (jY)
      rw [q1] at this
      exact this
    clear LA1 LA2 q1 q2
    clear hA hl
    have xx := Ext.refl W2
    obtain ⟨c0, c1, c2, c3, c4, c5, c6, c7, c8⟩ := (hX2.ext xx).cells
    obtain ⟨d0, d1, d2, d3, d4, d5, d6, d7, d8⟩ := (hY2.ext xx).cells
    go_wp2_with fail
    (with_reducible refine (C1 _ xx).mono ?_)
    rintro e w5 ⟨rfl, y9⟩
    replace xx := xx.trans y9
    clear y9 c0 c1 c2 c3 c4 c5 c6 c7 c8 d0 d1 d2 d3 d4 d5 d6 d7 d8
    obtain ⟨c0, c1, c2, c3, c4, c5, c6, c7, c8⟩ := (hX2.ext xx).cells
    obtain ⟨d0, d1, d2, d3, d4, d5, d6, d7, d8⟩ := (hY2.ext xx).cells
    go_wp2_with fail
    (with_reducible refine (C2 _ xx).mono ?_)
    rintro e w6 ⟨rfl, y9⟩
    replace xx := xx.trans y9
    clear y9 c0 c1 c2 c3 c4 c5 c6 c7 c8 d0 d1 d2 d3 d4 d5 d6 d7 d8
    obtain ⟨c0, c1, c2, c3, c4, c5, c6, c7, c8⟩ := (hX2.ext xx).cells
    obtain ⟨d0, d1, d2, d3, d4, d5, d6, d7, d8⟩ := (hY2.ext xx).cells
    go_wp2_with fail
    (with_reducible refine (C3 _ xx).mono ?_)
    rintro e w7 ⟨rfl, y9⟩
    replace xx := xx.trans y9
    clear y9 c0 c1 c2 c3 c4 c5 c6 c7 c8 d0 d1 d2 d3 d4 d5 d6 d7 d8
    go_wp2_with fail
    go_ret
    exact ⟨rfl, hx2.trans xx⟩
  by_cases p1 : part % 5 = 1
  · have iX := i1
    have jX := j1
    have iY := i1
    have jY := j1
    have hX2 : PtIn bX (.slice a0 l.length c) r f M S m s false 0 (((((wc.setCell ⟨bX, 7, none⟩ (.bool false)).setCell ⟨bY, 7, none⟩ (.bool true)).setCell ⟨bX, 8, none⟩ (.int .i64 0)).setCell ⟨bY, 8, none⟩ (.int .i64 lo))) := (PtIn.far (PtIn.put8 (PtIn.far (PtIn.put7 hX (false)) hne _) (0)) hne _)
    have hY2 : PtIn bY (.slice a0 l.length c) r f M S m s true lo (((((wc.setCell ⟨bX, 7, none⟩ (.bool false)).setCell ⟨bY, 7, none⟩ (.bool true)).setCell ⟨bX, 8, none⟩ (.int .i64 0)).setCell ⟨bY, 8, none⟩ (.int .i64 lo))) := (PtIn.put8 (PtIn.far (PtIn.put7 (PtIn.far hY hne.symm _) (true)) hne.symm _) (lo))
    have hx2 : Ext w (((((wc.setCell ⟨bX, 7, none⟩ (.bool false)).setCell ⟨bY, 7, none⟩ (.bool true)).setCell ⟨bX, 8, none⟩ (.int .i64 0)).setCell ⟨bY, 8, none⟩ (.int .i64 lo))) := (ext_setCell (ext_setCell (ext_setCell (ext_setCell hx (Nat.le_of_lt hbX) _) (Nat.le_of_lt hbY) _) (Nat.le_of_lt hbX) _) (Nat.le_of_lt hbY) _)
    clear c0 c1 c2 c3 c4 c5 c6 d0 d1 d2 d3 d4 d5 d6 fX0 fX1 fX3 fX4 fY0 fY1 fY3 fY4
    go_upto_region 17 with fail
    generalize (((((wc.setCell ⟨bX, 7, none⟩ (.bool false)).setCell ⟨bY, 7, none⟩ (.bool true)).setCell ⟨bX, 8, none⟩ (.int .i64 0)).setCell ⟨bY, 8, none⟩ (.int .i64 lo))) = W2 at *
    clear c7 c8 d7 d8 fX7 fX8 fY7 fY8 lX lY hX hY
    have q1 : cmpP l r f M S false 0 l r f M S true lo = -1 := by unfold cmpP; rw [cmpLs_self]; rfl
    have q2 : cmpP l r f M S true lo l r f M S false 0 = 1 := by unfold cmpP; rw [cmpLs_self]; rfl
    have LA1 : ∀ W, Ext W2 W → LabA a0 l W := fun W x => (hA.ext hx2).ext x
    have LA2 : ∀ W, Ext W2 W → LabA a0 l W := fun W x => (hA.ext hx2).ext x
    have C1 : ∀ W, Ext W2 W → Calls Try.prog 7 #[.agg #[.slice a0 l.length c, .int .i64 r, .bool f, .int .i64 M, .int .i64 S, .int .i64 m, .int .i64 s, .bool false, .int .i64 0], .agg #[.slice a0 l.length c, .int .i64 r, .bool f, .int .i64 M, .int .i64 S, .int .i64 m, .int .i64 s, .bool true, .int .i64 lo]] W fun e w' => e = .returned (.int .i64 (-1)) ∧ Ext W w' := fun W x => by
      have := ptCompare_any a0 a0 c c l l r f M S m s false 0 r f M S m s true lo W hl hl (LA1 W x) (LA2 W x) (iX) (jX) (iY) (jY)
      rw [q1] at this
      exact this
    have C2 : ∀ W, Ext W2 W → Calls Try.prog 7 #[.agg #[.slice a0 l.length c, .int .i64 r, .bool f, .int .i64 M, .int .i64 S, .int .i64 m, .int .i64 s, .bool true, .int .i64 lo], .agg #[.slice a0 l.length c, .int .i64 r, .bool f, .int .i64 M, .int .i64 S, .int .i64 m, .int .i64 s, .bool false, .int .i64 0]] W fun e w' => e = .returned (.int .i64 1) ∧ Ext W w' := fun W x => by
      have := ptCompare_any a0 a0 c c l l r f M S m s true lo r f M S m s false 0 W hl hl (LA2 W x) (LA1 W x) (iY) (jY) (iX) (jX)
      rw [q2] at this
      exact this
    have C3 : ∀ W, Ext W2 W → Calls Try.prog 8 #[.agg #[.slice a0 l.length c, .int .i64 r, .bool f, .int .i64 M, .int .i64 S, .int .i64 m, .int .i64 s, .bool false, .int .i64 0], .agg #[.slice a0 l.length c, .int .i64 r, .bool f, .int .i64 M, .int .i64 S, .int .i64 m, .int .i64 s, .bool true, .int .i64 lo]] W fun e w' => e = .returned (.bool false) ∧ Ext W w' := fun W x => by
      have := ptSame_any a0 a0 c c l l r f M S m s false 0 r f M S m s true lo W hl hl (LA1 W x) (LA2 W x) (iX) (jX) (iY) (jY)
      rw [q1] at this
      exact this
    clear LA1 LA2 q1 q2
    clear hA hl
    have xx := Ext.refl W2
    obtain ⟨c0, c1, c2, c3, c4, c5, c6, c7, c8⟩ := (hX2.ext xx).cells
    obtain ⟨d0, d1, d2, d3, d4, d5, d6, d7, d8⟩ := (hY2.ext xx).cells
    go_wp2_with fail
    (with_reducible refine (C1 _ xx).mono ?_)
    rintro e w5 ⟨rfl, y9⟩
    replace xx := xx.trans y9
    clear y9 c0 c1 c2 c3 c4 c5 c6 c7 c8 d0 d1 d2 d3 d4 d5 d6 d7 d8
    obtain ⟨c0, c1, c2, c3, c4, c5, c6, c7, c8⟩ := (hX2.ext xx).cells
    obtain ⟨d0, d1, d2, d3, d4, d5, d6, d7, d8⟩ := (hY2.ext xx).cells
    go_wp2_with fail
    (with_reducible refine (C2 _ xx).mono ?_)
    rintro e w6 ⟨rfl, y9⟩
    replace xx := xx.trans y9
    clear y9 c0 c1 c2 c3 c4 c5 c6 c7 c8 d0 d1 d2 d3 d4 d5 d6 d7 d8
    obtain ⟨c0, c1, c2, c3, c4, c5, c6, c7, c8⟩ := (hX2.ext xx).cells
    obtain ⟨d0, d1, d2, d3, d4, d5, d6, d7, d8⟩ := (hY2.ext xx).cells
    go_wp2_with fail
    (with_reducible refine (C3 _ xx).mono ?_)
    rintro e w7 ⟨rfl, y9⟩
    replace xx := xx.trans y9
    clear y9 c0 c1 c2 c3 c4 c5 c6 c7 c8 d0 d1 d2 d3 d4 d5 d6 d7 d8
    go_wp2_with fail
    go_ret
    exact ⟨rfl, hx2.trans xx⟩
  by_cases p2 : part % 5 = 2
  · have iX := i1
    have jX := j1
    have iY := i1
    have jY := j1
    have hX2 : PtIn bX (.slice a0 l.length c) r f M S m s true lo (((((wc.setCell ⟨bX, 7, none⟩ (.bool true)).setCell ⟨bY, 7, none⟩ (.bool true)).setCell ⟨bX, 8, none⟩ (.int .i64 lo)).setCell ⟨bY, 8, none⟩ (.int .i64 hi))) := (PtIn.far (PtIn.put8 (PtIn.far (PtIn.put7 hX (true)) hne _) (lo)) hne _)
    have hY2 : PtIn bY (.slice a0 l.length c) r f M S m s true hi (((((wc.setCell ⟨bX, 7, none⟩ (.bool true)).setCell ⟨bY, 7, none⟩ (.bool true)).setCell ⟨bX, 8, none⟩ (.int .i64 lo)).setCell ⟨bY, 8, none⟩ (.int .i64 hi))) := (PtIn.put8 (PtIn.far (PtIn.put7 (PtIn.far hY hne.symm _) (true)) hne.symm _) (hi))
    have hx2 : Ext w (((((wc.setCell ⟨bX, 7, none⟩ (.bool true)).setCell ⟨bY, 7, none⟩ (.bool true)).setCell ⟨bX, 8, none⟩ (.int .i64 lo)).setCell ⟨bY, 8, none⟩ (.int .i64 hi))) := (ext_setCell (ext_setCell (ext_setCell (ext_setCell hx (Nat.le_of_lt hbX) _) (Nat.le_of_lt hbY) _) (Nat.le_of_lt hbX) _) (Nat.le_of_lt hbY) _)
    clear c0 c1 c2 c3 c4 c5 c6 d0 d1 d2 d3 d4 d5 d6 fX0 fX1 fX3 fX4 fY0 fY1 fY3 fY4
    go_upto_region 17 with fail
    generalize (((((wc.setCell ⟨bX, 7, none⟩ (.bool true)).setCell ⟨bY, 7, none⟩ (.bool true)).setCell ⟨bX, 8, none⟩ (.int .i64 lo)).setCell ⟨bY, 8, none⟩ (.int .i64 hi))) = W2 at *
    clear c7 c8 d7 d8 fX7 fX8 fY7 fY8 lX lY hX hY
    have q1 : cmpP l r f M S true lo l r f M S true hi = -1 := by unfold cmpP; simp only [cmpLs_self, cmpB_self]; rw [show cmpI lo hi = -1 from if_pos hlo]; rfl
    have q2 : cmpP l r f M S true hi l r f M S true lo = 1 := by unfold cmpP; simp only [cmpLs_self, cmpB_self]; rw [show cmpI hi lo = 1 from (if_neg (by omega)).trans (if_pos hlo)]; rfl
    have LA1 : ∀ W, Ext W2 W → LabA a0 l W := fun W x => (hA.ext hx2).ext x
    have LA2 : ∀ W, Ext W2 W → LabA a0 l W := fun W x => (hA.ext hx2).ext x
    have C1 : ∀ W, Ext W2 W → Calls Try.prog 7 #[.agg #[.slice a0 l.length c, .int .i64 r, .bool f, .int .i64 M, .int .i64 S, .int .i64 m, .int .i64 s, .bool true, .int .i64 lo], .agg #[.slice a0 l.length c, .int .i64 r, .bool f, .int .i64 M, .int .i64 S, .int .i64 m, .int .i64 s, .bool true, .int .i64 hi]] W fun e w' => e = .returned (.int .i64 (-1)) ∧ Ext W w' := fun W x => by
      have := ptCompare_any a0 a0 c c l l r f M S m s true lo r f M S m s true hi W hl hl (LA1 W x) (LA2 W x) (iX) (jX) (iY) (jY)
      rw [q1] at this
      exact this
    have C2 : ∀ W, Ext W2 W → Calls Try.prog 7 #[.agg #[.slice a0 l.length c, .int .i64 r, .bool f, .int .i64 M, .int .i64 S, .int .i64 m, .int .i64 s, .bool true, .int .i64 hi], .agg #[.slice a0 l.length c, .int .i64 r, .bool f, .int .i64 M, .int .i64 S, .int .i64 m, .int .i64 s, .bool true, .int .i64 lo]] W fun e w' => e = .returned (.int .i64 1) ∧ Ext W w' := fun W x => by
      have := ptCompare_any a0 a0 c c l l r f M S m s true hi r f M S m s true lo W hl hl (LA2 W x) (LA1 W x) (iY) (jY) (iX) (jX)
      rw [q2] at this
      exact this
    have C3 : ∀ W, Ext W2 W → Calls Try.prog 8 #[.agg #[.slice a0 l.length c, .int .i64 r, .bool f, .int .i64 M, .int .i64 S, .int .i64 m, .int .i64 s, .bool true, .int .i64 lo], .agg #[.slice a0 l.length c, .int .i64 r, .bool f, .int .i64 M, .int .i64 S, .int .i64 m, .int .i64 s, .bool true, .int .i64 hi]] W fun e w' => e = .returned (.bool false) ∧ Ext W w' := fun W x => by
      have := ptSame_any a0 a0 c c l l r f M S m s true lo r f M S m s true hi W hl hl (LA1 W x) (LA2 W x) (iX) (jX) (iY) (jY)
      rw [q1] at this
      exact this
    clear LA1 LA2 q1 q2
    clear hA hl
    have xx := Ext.refl W2
    obtain ⟨c0, c1, c2, c3, c4, c5, c6, c7, c8⟩ := (hX2.ext xx).cells
    obtain ⟨d0, d1, d2, d3, d4, d5, d6, d7, d8⟩ := (hY2.ext xx).cells
    go_wp2_with fail
    (with_reducible refine (C1 _ xx).mono ?_)
    rintro e w5 ⟨rfl, y9⟩
    replace xx := xx.trans y9
    clear y9 c0 c1 c2 c3 c4 c5 c6 c7 c8 d0 d1 d2 d3 d4 d5 d6 d7 d8
    obtain ⟨c0, c1, c2, c3, c4, c5, c6, c7, c8⟩ := (hX2.ext xx).cells
    obtain ⟨d0, d1, d2, d3, d4, d5, d6, d7, d8⟩ := (hY2.ext xx).cells
    go_wp2_with fail
    (with_reducible refine (C2 _ xx).mono ?_)
    rintro e w6 ⟨rfl, y9⟩
    replace xx := xx.trans y9
    clear y9 c0 c1 c2 c3 c4 c5 c6 c7 c8 d0 d1 d2 d3 d4 d5 d6 d7 d8
    obtain ⟨c0, c1, c2, c3, c4, c5, c6, c7, c8⟩ := (hX2.ext xx).cells
    obtain ⟨d0, d1, d2, d3, d4, d5, d6, d7, d8⟩ := (hY2.ext xx).cells
    go_wp2_with fail
    (with_reducible refine (C3 _ xx).mono ?_)
    rintro e w7 ⟨rfl, y9⟩
    replace xx := xx.trans y9
    clear y9 c0 c1 c2 c3 c4 c5 c6 c7 c8 d0 d1 d2 d3 d4 d5 d6 d7 d8
    go_wp2_with fail
    go_ret
    exact ⟨rfl, hx2.trans xx⟩
  by_cases p3 : part % 5 = 3
  · have iX := i1
    have jX := j1
    have iY := i1
    have jY := j1
    have hX2 : PtIn bX (.slice a0 l.length c) lo f M S m s t T (((wc.setCell ⟨bX, 1, none⟩ (.int .i64 lo)).setCell ⟨bY, 1, none⟩ (.int .i64 hi))) := (PtIn.far (PtIn.put1 hX (lo)) hne _)
    have hY2 : PtIn bY (.slice a0 l.length c) hi f M S m s t T (((wc.setCell ⟨bX, 1, none⟩ (.int .i64 lo)).setCell ⟨bY, 1, none⟩ (.int .i64 hi))) := (PtIn.put1 (PtIn.far hY hne.symm _) (hi))
    have hx2 : Ext w (((wc.setCell ⟨bX, 1, none⟩ (.int .i64 lo)).setCell ⟨bY, 1, none⟩ (.int .i64 hi))) := (ext_setCell (ext_setCell hx (Nat.le_of_lt hbX) _) (Nat.le_of_lt hbY) _)
    clear c0 c2 c3 c4 c5 c6 c7 c8 d0 d2 d3 d4 d5 d6 d7 d8 fX0 fX3 fX4 fX7 fX8 fY0 fY3 fY4 fY7 fY8
    go_upto_region 17 with fail
    generalize (((wc.setCell ⟨bX, 1, none⟩ (.int .i64 lo)).setCell ⟨bY, 1, none⟩ (.int .i64 hi))) = W2 at *
    clear c1 d1 fX1 fY1 lX lY hX hY
    have q1 : cmpP l lo f M S t T l hi f M S t T = -1 := by unfold cmpP; simp only [cmpLs_self, cmpB_self, cmpI_self]; rw [show cmpI lo hi = -1 from if_pos hlo]; rfl
    have q2 : cmpP l hi f M S t T l lo f M S t T = 1 := by unfold cmpP; simp only [cmpLs_self, cmpB_self, cmpI_self]; rw [show cmpI hi lo = 1 from (if_neg (by omega)).trans (if_pos hlo)]; rfl
    have LA1 : ∀ W, Ext W2 W → LabA a0 l W := fun W x => (hA.ext hx2).ext x
    have LA2 : ∀ W, Ext W2 W → LabA a0 l W := fun W x => (hA.ext hx2).ext x
    have C1 : ∀ W, Ext W2 W → Calls Try.prog 7 #[.agg #[.slice a0 l.length c, .int .i64 lo, .bool f, .int .i64 M, .int .i64 S, .int .i64 m, .int .i64 s, .bool t, .int .i64 T], .agg #[.slice a0 l.length c, .int .i64 hi, .bool f, .int .i64 M, .int .i64 S, .int .i64 m, .int .i64 s, .bool t, .int .i64 T]] W fun e w' => e = .returned (.int .i64 (-1)) ∧ Ext W w' := fun W x => by
      have := ptCompare_any a0 a0 c c l l lo f M S m s t T hi f M S m s t T W hl hl (LA1 W x) (LA2 W x) (iX) (jX) (iY) (jY)
      rw [q1] at this
      exact this
    have C2 : ∀ W, Ext W2 W → Calls Try.prog 7 #[.agg #[.slice a0 l.length c, .int .i64 hi, .bool f, .int .i64 M, .int .i64 S, .int .i64 m, .int .i64 s, .bool t, .int .i64 T], .agg #[.slice a0 l.length c, .int .i64 lo, .bool f, .int .i64 M, .int .i64 S, .int .i64 m, .int .i64 s, .bool t, .int .i64 T]] W fun e w' => e = .returned (.int .i64 1) ∧ Ext W w' := fun W x => by
      have := ptCompare_any a0 a0 c c l l hi f M S m s t T lo f M S m s t T W hl hl (LA2 W x) (LA1 W x) (iY) (jY) (iX) (jX)
      rw [q2] at this
      exact this
    have C3 : ∀ W, Ext W2 W → Calls Try.prog 8 #[.agg #[.slice a0 l.length c, .int .i64 lo, .bool f, .int .i64 M, .int .i64 S, .int .i64 m, .int .i64 s, .bool t, .int .i64 T], .agg #[.slice a0 l.length c, .int .i64 hi, .bool f, .int .i64 M, .int .i64 S, .int .i64 m, .int .i64 s, .bool t, .int .i64 T]] W fun e w' => e = .returned (.bool false) ∧ Ext W w' := fun W x => by
      have := ptSame_any a0 a0 c c l l lo f M S m s t T hi f M S m s t T W hl hl (LA1 W x) (LA2 W x) (iX) (jX) (iY) (jY)
      rw [q1] at this
      exact this
    clear LA1 LA2 q1 q2
    clear hA hl
    have xx := Ext.refl W2
    obtain ⟨c0, c1, c2, c3, c4, c5, c6, c7, c8⟩ := (hX2.ext xx).cells
    obtain ⟨d0, d1, d2, d3, d4, d5, d6, d7, d8⟩ := (hY2.ext xx).cells
    go_wp2_with fail
    (with_reducible refine (C1 _ xx).mono ?_)
    rintro e w5 ⟨rfl, y9⟩
    replace xx := xx.trans y9
    clear y9 c0 c1 c2 c3 c4 c5 c6 c7 c8 d0 d1 d2 d3 d4 d5 d6 d7 d8
    obtain ⟨c0, c1, c2, c3, c4, c5, c6, c7, c8⟩ := (hX2.ext xx).cells
    obtain ⟨d0, d1, d2, d3, d4, d5, d6, d7, d8⟩ := (hY2.ext xx).cells
    go_wp2_with fail
    (with_reducible refine (C2 _ xx).mono ?_)
    rintro e w6 ⟨rfl, y9⟩
    replace xx := xx.trans y9
    clear y9 c0 c1 c2 c3 c4 c5 c6 c7 c8 d0 d1 d2 d3 d4 d5 d6 d7 d8
    obtain ⟨c0, c1, c2, c3, c4, c5, c6, c7, c8⟩ := (hX2.ext xx).cells
    obtain ⟨d0, d1, d2, d3, d4, d5, d6, d7, d8⟩ := (hY2.ext xx).cells
    go_wp2_with fail
    (with_reducible refine (C3 _ xx).mono ?_)
    rintro e w7 ⟨rfl, y9⟩
    replace xx := xx.trans y9
    clear y9 c0 c1 c2 c3 c4 c5 c6 c7 c8 d0 d1 d2 d3 d4 d5 d6 d7 d8
    go_wp2_with fail
    go_ret
    exact ⟨rfl, hx2.trans xx⟩
  have iX : I64 lo := by unfold I64; omega
  have iY : I64 hi := by unfold I64; omega
  have jX : I64 0 := by unfold I64; omega
  have jY : I64 0 := by unfold I64; omega
  have hX2 : PtIn bX (.slice a0 l.length c) r f lo 0 m s t T (((((wc.setCell ⟨bX, 3, none⟩ (.int .i64 lo)).setCell ⟨bX, 4, none⟩ (.int .i64 0)).setCell ⟨bY, 3, none⟩ (.int .i64 hi)).setCell ⟨bY, 4, none⟩ (.int .i64 0))) := (PtIn.far (PtIn.far (PtIn.put4 (PtIn.put3 hX (lo)) (0)) hne _) hne _)
  have hY2 : PtIn bY (.slice a0 l.length c) r f hi 0 m s t T (((((wc.setCell ⟨bX, 3, none⟩ (.int .i64 lo)).setCell ⟨bX, 4, none⟩ (.int .i64 0)).setCell ⟨bY, 3, none⟩ (.int .i64 hi)).setCell ⟨bY, 4, none⟩ (.int .i64 0))) := (PtIn.put4 (PtIn.put3 (PtIn.far (PtIn.far hY hne.symm _) hne.symm _) (hi)) (0))
  have hx2 : Ext w (((((wc.setCell ⟨bX, 3, none⟩ (.int .i64 lo)).setCell ⟨bX, 4, none⟩ (.int .i64 0)).setCell ⟨bY, 3, none⟩ (.int .i64 hi)).setCell ⟨bY, 4, none⟩ (.int .i64 0))) := (ext_setCell (ext_setCell (ext_setCell (ext_setCell hx (Nat.le_of_lt hbX) _) (Nat.le_of_lt hbX) _) (Nat.le_of_lt hbY) _) (Nat.le_of_lt hbY) _)
  clear c0 c1 c2 c5 c6 c7 c8 d0 d1 d2 d5 d6 d7 d8 fX0 fX1 fX7 fX8 fY0 fY1 fY7 fY8
  go_upto_region 17 with fail
  generalize (((((wc.setCell ⟨bX, 3, none⟩ (.int .i64 lo)).setCell ⟨bX, 4, none⟩ (.int .i64 0)).setCell ⟨bY, 3, none⟩ (.int .i64 hi)).setCell ⟨bY, 4, none⟩ (.int .i64 0))) = W2 at *
  clear c3 c4 d3 d4 fX3 fX4 fY3 fY4 lX lY hX hY
  have q1 : cmpP l r f lo 0 t T l r f hi 0 t T = -1 := by unfold cmpP; simp only [cmpLs_self, cmpB_self, cmpI_self]; rw [(dec_lt hlo1 hhi1 hlo).1]; rfl
  have q2 : cmpP l r f hi 0 t T l r f lo 0 t T = 1 := by unfold cmpP; simp only [cmpLs_self, cmpB_self, cmpI_self]; rw [(dec_lt hlo1 hhi1 hlo).2]; rfl
  have LA1 : ∀ W, Ext W2 W → LabA a0 l W := fun W x => (hA.ext hx2).ext x
  have LA2 : ∀ W, Ext W2 W → LabA a0 l W := fun W x => (hA.ext hx2).ext x
  have C1 : ∀ W, Ext W2 W → Calls Try.prog 7 #[.agg #[.slice a0 l.length c, .int .i64 r, .bool f, .int .i64 lo, .int .i64 0, .int .i64 m, .int .i64 s, .bool t, .int .i64 T], .agg #[.slice a0 l.length c, .int .i64 r, .bool f, .int .i64 hi, .int .i64 0, .int .i64 m, .int .i64 s, .bool t, .int .i64 T]] W fun e w' => e = .returned (.int .i64 (-1)) ∧ Ext W w' := fun W x => by
    have := ptCompare_any a0 a0 c c l l r f lo 0 m s t T r f hi 0 m s t T W hl hl (LA1 W x) (LA2 W x) (iX) (jX) (iY) (jY)
    rw [q1] at this
    exact this
  have C2 : ∀ W, Ext W2 W → Calls Try.prog 7 #[.agg #[.slice a0 l.length c, .int .i64 r, .bool f, .int .i64 hi, .int .i64 0, .int .i64 m, .int .i64 s, .bool t, .int .i64 T], .agg #[.slice a0 l.length c, .int .i64 r, .bool f, .int .i64 lo, .int .i64 0, .int .i64 m, .int .i64 s, .bool t, .int .i64 T]] W fun e w' => e = .returned (.int .i64 1) ∧ Ext W w' := fun W x => by
    have := ptCompare_any a0 a0 c c l l r f hi 0 m s t T r f lo 0 m s t T W hl hl (LA2 W x) (LA1 W x) (iY) (jY) (iX) (jX)
    rw [q2] at this
    exact this
  have C3 : ∀ W, Ext W2 W → Calls Try.prog 8 #[.agg #[.slice a0 l.length c, .int .i64 r, .bool f, .int .i64 lo, .int .i64 0, .int .i64 m, .int .i64 s, .bool t, .int .i64 T], .agg #[.slice a0 l.length c, .int .i64 r, .bool f, .int .i64 hi, .int .i64 0, .int .i64 m, .int .i64 s, .bool t, .int .i64 T]] W fun e w' => e = .returned (.bool false) ∧ Ext W w' := fun W x => by
    have := ptSame_any a0 a0 c c l l r f lo 0 m s t T r f hi 0 m s t T W hl hl (LA1 W x) (LA2 W x) (iX) (jX) (iY) (jY)
    rw [q1] at this
    exact this
  clear LA1 LA2 q1 q2
  clear hA hl
  have xx := Ext.refl W2
  obtain ⟨c0, c1, c2, c3, c4, c5, c6, c7, c8⟩ := (hX2.ext xx).cells
  obtain ⟨d0, d1, d2, d3, d4, d5, d6, d7, d8⟩ := (hY2.ext xx).cells
  go_wp2_with fail
  (with_reducible refine (C1 _ xx).mono ?_)
  rintro e w5 ⟨rfl, y9⟩
  replace xx := xx.trans y9
  clear y9 c0 c1 c2 c3 c4 c5 c6 c7 c8 d0 d1 d2 d3 d4 d5 d6 d7 d8
  obtain ⟨c0, c1, c2, c3, c4, c5, c6, c7, c8⟩ := (hX2.ext xx).cells
  obtain ⟨d0, d1, d2, d3, d4, d5, d6, d7, d8⟩ := (hY2.ext xx).cells
  go_wp2_with fail
  (with_reducible refine (C2 _ xx).mono ?_)
  rintro e w6 ⟨rfl, y9⟩
  replace xx := xx.trans y9
  clear y9 c0 c1 c2 c3 c4 c5 c6 c7 c8 d0 d1 d2 d3 d4 d5 d6 d7 d8
  obtain ⟨c0, c1, c2, c3, c4, c5, c6, c7, c8⟩ := (hX2.ext xx).cells
  obtain ⟨d0, d1, d2, d3, d4, d5, d6, d7, d8⟩ := (hY2.ext xx).cells
  go_wp2_with fail
  (with_reducible refine (C3 _ xx).mono ?_)
  rintro e w7 ⟨rfl, y9⟩
  replace xx := xx.trans y9
  clear y9 c0 c1 c2 c3 c4 c5 c6 c7 c8 d0 d1 d2 d3 d4 d5 d6 d7 d8
  go_wp2_with fail
  go_ret
  exact ⟨rfl, hx2.trans xx⟩
end Go.Proofs.Ytbkhdjbhijmghaa
