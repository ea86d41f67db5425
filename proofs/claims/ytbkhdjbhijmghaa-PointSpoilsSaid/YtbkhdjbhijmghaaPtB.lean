/- Labels: a row of them in memory; how two rows compare. -/
import Derived.Test.YtbkhdjbhijmghaaPtA
import Derived.Deep.RegionWith
import Derived.Deep.RegionHeld3
import Derived.Deep.DeepCutAuto
namespace Go.Proofs.Ytbkhdjbhijmghaa
open Go.RowKit

/-- The labels of a slice, from an address on. -/
def LabsAt (b o : Nat) (l : List (ByteArray × ByteArray)) (w : World) : Prop := ∀ i (h : i < l.length), w.cell? ⟨b, o + i * 2, none⟩ = some (.string l[i].1) ∧ w.cell? ⟨b, o + i * 2 + 1, none⟩ = some (.string l[i].2)
/-- A slice of labels. -/
def LabA (a : Option Addr) (l : List (ByteArray × ByteArray)) (w : World) : Prop := 0 < l.length → ∃ b o, a = some ⟨b, o, none⟩ ∧ b < w.heap.size ∧ LabsAt b o l w
theorem LabA.ext {a : Option Addr} {l : List (ByteArray × ByteArray)} {w w' : World} (h : LabA a l w) (x : Ext w w') : LabA a l w' := fun h0 => by
  obtain ⟨b, o, rfl, hb, hl⟩ := h h0
  exact ⟨b, o, rfl, Nat.lt_of_lt_of_le hb x.size, fun i hi => ⟨(x.cell hb).trans (hl i hi).1, (x.cell hb).trans (hl i hi).2⟩⟩
theorem LabA.nil (a : Option Addr) (w : World) : LabA a [] w := fun h => absurd h (by simp)
/-- How two labels compare. -/
def cmpL (x y : ByteArray × ByteArray) : Int := orL [cmpS x.1 y.1, cmpS x.2 y.2]
/-- How two rows of labels compare. -/
def cmpLs : List (ByteArray × ByteArray) → List (ByteArray × ByteArray) → Int
  | [], [] => 0
  | [], _ :: _ => -1
  | _ :: _, [] => 1
  | x :: l, y :: m => if cmpL x y ≠ 0 then cmpL x y else cmpLs l m
theorem cmpL_c3 (x y : ByteArray × ByteArray) : C3 (cmpL x y) := orL_c3 _ (by intro z hz; simp at hz; rcases hz with rfl | rfl <;> exact cmpS_c3 _ _)
theorem cmpLs_c3 : ∀ (l m : List (ByteArray × ByteArray)), C3 (cmpLs l m)
  | [], [] => .inr (.inl rfl)
  | [], _ :: _ => .inl rfl
  | _ :: _, [] => .inr (.inr rfl)
  | x :: l, y :: m => by
    unfold cmpLs
    split
    · exact cmpL_c3 x y
    · exact cmpLs_c3 l m

theorem IntsAt.mk {w : World} {b : Nat} {t : TypeId} {fr : Nat × Nat} (l : List Int) (h : w.heap[b]? = some (.cells (l.map fun x => Value.int .i64 x).toArray t fr)) : IntsAt b 0 l w := by
  intro i hi
  rw [Lib.cell_of_heap h]
  simp [hi]
/-- Two texts in memory, in block b. -/
def LabIn (b : Nat) (n v : ByteArray) (w : World) : Prop := w.heap[b]? = some (.cells #[.string n, .string v] 30 (0, 0))
theorem LabIn.ext {b : Nat} {n v : ByteArray} {w w' : World} (h : LabIn b n v w) (hk : Ext w w') : LabIn b n v w' := (hk.heap (Array.getElem?_eq_some_iff.1 h).1).trans h
theorem LabIn.cells {b : Nat} {n v : ByteArray} {w : World} (h : LabIn b n v w) : w.cell? ⟨b, 0, none⟩ = some (.string n) ∧ w.cell? ⟨b, 1, none⟩ = some (.string v) := by
  refine ⟨?_, ?_⟩ <;> (rw [Lib.cell_of_heap h]; rfl)

set_option maxHeartbeats 4000000 in
set_option maxRecDepth 100000 in
theorem cmpL_any (n1 v1 n2 v2 : ByteArray) (w : World) :
    Calls Try.prog 31 #[.agg #[.string n1, .string v1], .agg #[.string n2, .string v2]] w fun e w' => e = .returned (.int .i64 (cmpL (n1, v1) (n2, v2))) ∧ Ext w w' := by
  have S1 := fun w => strCompare_any n1 n2 w
  have S2 := fun w => strCompare_any v1 v2 w
  have O : ∀ (b : Nat) (W : World), IntsAt b 0 [cmpS n1 n2, cmpS v1 v2] W → Calls Try.prog 12 #[.slice (some ⟨b, 0, none⟩) 2 2] W fun e w' => e = .returned (.int .i64 (orL [cmpS n1 n2, cmpS v1 v2])) ∧ Ext W w' := fun b W h => Or_any b 0 2 [cmpS n1 n2, cmpS v1 v2] W (by simp) h
  unfold cmpL
  dsimp only at *
  generalize orL [cmpS n1 n2, cmpS v1 v2] = R at *
  generalize cmpS n1 n2 = X at *
  generalize cmpS v1 v2 = Y at *
  go_enter Try.func31, Try.ntmps31
  have hx : Ext w ((w.alloc (.cells #[.string n1, .string v1] 30)).alloc (.cells #[.string n2, .string v2] 30)) := ((Ext.refl _).alloc _).alloc _
  have h1 : LabIn w.heap.size n1 v1 ((w.alloc (.cells #[.string n1, .string v1] 30)).alloc (.cells #[.string n2, .string v2] 30)) := heap_at2a _ _ _
  have h2 : LabIn (w.heap.size + 1) n2 v2 ((w.alloc (.cells #[.string n1, .string v1] 30)).alloc (.cells #[.string n2, .string v2] 30)) := heap_at2b _ _ _
  go_wp2_with fail
  generalize (w.alloc (.cells #[.string n1, .string v1] 30)).alloc (.cells #[.string n2, .string v2] 30) = W at *
  obtain ⟨c0, c1⟩ := h1.cells
  obtain ⟨d0, d1⟩ := h2.cells
  have Z : Ext W W.drew := (Ext.refl _).drew
  go_region_held3 (fun w' => w'.cell? ⟨w.heap.size, 0, none⟩ = some (.string n1) ∧ w'.cell? ⟨w.heap.size, 1, none⟩ = some (.string v1) ∧ w'.cell? ⟨w.heap.size + 1, 0, none⟩ = some (.string n2) ∧ w'.cell? ⟨w.heap.size + 1, 1, none⟩ = some (.string v2)) (first | exact ⟨p0, p1, q0, q1⟩ | exact ⟨c0, c1, d0, d1⟩ | go_keep) (first
    | (go_at_call 32; (with_reducible refine (S1 _).mono ?_); rintro e wz ⟨rfl, xz⟩; replace Z := Z.trans xz; have p0 := (h1.ext Z).cells.1; have p1 := (h1.ext Z).cells.2; have q0 := (h2.ext Z).cells.1; have q1 := (h2.ext Z).cells.2)
    | (go_at_call 32; (with_reducible refine (S2 _).mono ?_); rintro e wz ⟨rfl, xz⟩; replace Z := Z.trans xz; have p0 := (h1.ext Z).cells.1; have p1 := (h1.ext Z).cells.2; have q0 := (h2.ext Z).cells.1; have q1 := (h2.ext Z).cells.2)
    | (go_at_call 12; (with_reducible refine (O _ _ ?h).mono ?_); (case h => exact IntsAt.mk [X, Y] (heap_last _ _)); rintro e wy ⟨rfl, xz⟩; replace Z := (Z.alloc _).trans xz; have p0 := (h1.ext Z).cells.1; have p1 := (h1.ext Z).cells.2; have q0 := (h2.ext Z).cells.1; have q1 := (h2.ext Z).cells.2))
  all_goals
    go_wp2_with fail
    go_ret
    exact ⟨rfl, hx.trans Z⟩

set_option maxHeartbeats 4000000 in
set_option maxRecDepth 100000 in
theorem cmpFunc_any (a1 a2 : Option Addr) (c1 c2 : Nat) (l m : List (ByteArray × ByteArray)) (w : World) (hl : (l.length : Int) ≤ 9223372036854775807) (hm : (m.length : Int) ≤ 9223372036854775807) (h1 : LabA a1 l w) (h2 : LabA a2 m w) :
    Calls Try.prog 30 #[.slice a1 l.length c1, .slice a2 m.length c2, .func (.func 31) #[] #[]] w fun e w' => e = .returned (.int .i64 (cmpLs l m)) ∧ Ext w w' := by
  obtain ⟨R, hR⟩ : ∃ R, cmpLs l m = R := ⟨_, rfl⟩
  rw [hR]
  go_enter Try.func30, Try.ntmps30
  go_wp2_with fail
  go_loopw [13] (fun i wr => ∃ k : Nat, i = .int .i64 k ∧ k ≤ l.length ∧ k ≤ m.length ∧ Hid (cmpLs (l.drop k) (m.drop k) = R) ∧ Ext w wr) (fun i _ => l.length - (intOf i).toNat)
  case atStart => exact ⟨0, rfl, Nat.zero_le _, Nat.zero_le _, Lib.hid hR, Ext.refl _⟩
  case round =>
    obtain ⟨k, rfl, hk, hk2, hz, xr⟩ := hrel
    have hd := hz.out
    clear hz hR
    by_cases hlt : k < l.length
    · rw [List.drop_eq_getElem_cons hlt] at hd
      obtain ⟨b1, o1, rfl, hb1, hL⟩ := h1 (by omega)
      obtain ⟨q0, q1⟩ := hL k hlt
      have r0 := (xr.cell (p := ⟨b1, o1 + k * 2, none⟩) hb1).trans q0
      have r1 := (xr.cell (p := ⟨b1, o1 + k * 2 + 1, none⟩) hb1).trans q1
      clear q0 q1
      by_cases hlt2 : k < m.length
      · rw [List.drop_eq_getElem_cons hlt2] at hd
        unfold cmpLs at hd
        obtain ⟨b2, o2, rfl, hb2, hM⟩ := h2 (by omega)
        obtain ⟨q0, q1⟩ := hM k hlt2
        have s0 := (xr.cell (p := ⟨b2, o2 + k * 2, none⟩) hb2).trans q0
        have s1 := (xr.cell (p := ⟨b2, o2 + k * 2 + 1, none⟩) hb2).trans q1
        clear q0 q1
        obtain ⟨x1, x2, ex⟩ : ∃ x1 x2, l[k] = (x1, x2) := ⟨_, _, rfl⟩
        obtain ⟨y1, y2, ey⟩ : ∃ y1 y2, m[k] = (y1, y2) := ⟨_, _, rfl⟩
        rw [ex] at hd r0 r1
        rw [ey] at hd s0 s1
        dsimp only at r0 r1 s0 s1
        have CC := fun w => cmpL_any x1 x2 y1 y2 w
        obtain ⟨cv, hcv⟩ : ∃ cv, cmpL (x1, x2) (y1, y2) = cv := ⟨_, rfl⟩
        rw [hcv] at CC hd
        have k1 := Nat.lt_of_lt_of_le hb1 xr.size
        have k2 := Nat.lt_of_lt_of_le hb2 xr.size
        by_cases h0 : cv = 0
        · subst h0
          rw [if_neg (by decide)] at hd
          replace hd := Lib.hid hd
          clear h1 h2 hL hM hcv ex ey
          go_wp2_with fail
          (with_reducible refine (CC _).mono ?_)
          rintro e w1 ⟨rfl, z1⟩
          replace xr := (((xr.alloc _).alloc _)).trans z1
          clear r0 r1 s0 s1
          go_wp2_with fail
          go_roundw
          case rel => exact ⟨k + 1, rfl, hlt, hlt2, hd, xr⟩
          case measure => simp only [intOf]; omega
        · rw [if_pos h0] at hd
          replace hd := Lib.hid hd
          clear h1 h2 hL hM hcv ex ey
          go_wp2_with fail
          (with_reducible refine (CC _).mono ?_)
          rintro e w1 ⟨rfl, z1⟩
          replace xr := (((xr.alloc _).alloc _)).trans z1
          clear r0 r1 s0 s1
          go_wp2_with fail
          go_ret
          exact ⟨retI hd.out, xr⟩
      · rw [show m.drop k = [] from List.drop_eq_nil_of_le (by omega)] at hd
        replace hd : Hid ((1 : Int) = R) := Lib.hid hd
        have hk3 : m.length ≤ k := by omega
        clear h1 hL hk2 hlt2
        go_wp2_with fail
        go_ret
        exact ⟨retI hd.out, xr.alloc _⟩
    · rw [show l.drop k = [] from List.drop_eq_nil_of_le (by omega)] at hd
      have hk3 : k = l.length := by omega
      by_cases hlt2 : k < m.length
      · rw [List.drop_eq_getElem_cons hlt2] at hd
        replace hd : Hid ((-1 : Int) = R) := Lib.hid hd
        clear h1 h2
        go_wp2_with fail
        go_ret
        exact ⟨retI hd.out, xr⟩
      · rw [show m.drop k = [] from List.drop_eq_nil_of_le (by omega)] at hd
        replace hd : Hid ((0 : Int) = R) := Lib.hid hd
        have hk4 : k = m.length := by omega
        clear h1 h2
        go_wp2_with fail
        go_ret
        exact ⟨retI hd.out, xr⟩

theorem labCompare_any (a1 a2 : Option Addr) (c1 c2 : Nat) (l m : List (ByteArray × ByteArray)) (w : World) (hl : (l.length : Int) ≤ 9223372036854775807) (hm : (m.length : Int) ≤ 9223372036854775807) (h1 : LabA a1 l w) (h2 : LabA a2 m w) :
    Calls Try.prog 13 #[.slice a1 l.length c1, .slice a2 m.length c2] w fun e w' => e = .returned (.int .i64 (cmpLs l m)) ∧ Ext w w' := by
  go_enter Try.func13, Try.ntmps13
  go_wp2_with fail
  (with_reducible refine (cmpFunc_any a1 a2 c1 c2 l m _ hl hm h1 h2).mono ?_)
  rintro e w1 ⟨rfl, z1⟩
  go_wp2_with fail
  go_ret
  exact ⟨rfl, z1⟩
end Go.Proofs.Ytbkhdjbhijmghaa
