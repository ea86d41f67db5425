import Derived.Lib.Strings
import Derived.Lib.Slices
import Derived.Lib.Walk
import Derived.Lib.Bytealg
import Derived.Test.YtjjnmefihdjglaaGreatGC
import Derived.Deep.RegionWith
import Derived.Deep.RegionHeld3
import Derived.Deep.DeepCutAuto
import Derived.Test.YtjjnmefihdjglaaGreatGA
namespace Go.Proofs.YtjjnmefihdjglaaGreat
open Go.RowKit
def cmpS (a b : ByteArray) : Int := Lib.compareBytes a.data.toList b.data.toList
def cmpI (x y : Int) : Int := if x < y then -1 else if y < x then 1 else 0
def cmpB (x y : Bool) : Int := if x == y then 0 else if y then -1 else 1
def orL : List Int → Int
 | [] => 0
 | x :: l => if x ≠ 0 then x else orL l
def C3 (x : Int) : Prop := x = -1 ∨ x = 0 ∨ x = 1
theorem cmpI_c3 (x y : Int) : C3 (cmpI x y) := by unfold C3 cmpI; split <;> (try split) <;> simp
theorem cmpB_c3 (x y : Bool) : C3 (cmpB x y) := by cases x <;> cases y <;> (unfold C3; decide)
theorem cmpBytes_c3 : ∀ (l m : List UInt8), C3 (Lib.compareBytes l m)
 | [], [] => .inr (.inl rfl)
 | [], _ :: _ => .inl rfl
 | _ :: _, [] => .inr (.inr rfl)
 | a :: l, b :: m => by
   unfold Lib.compareBytes
   split
   ·exact .inl rfl
   ·split
    ·exact .inr (.inr rfl)
    ·exact cmpBytes_c3 l m
theorem cmpS_c3 (a b : ByteArray) : C3 (cmpS a b) := cmpBytes_c3 _ _
theorem orL_c3 : ∀ (l : List Int), (∀ x ∈ l, C3 x) → C3 (orL l)
 | [], _ => .inr (.inl rfl)
 | x :: l, h => by
   unfold orL
   split
   ·exact h x (by simp)
   ·exact orL_c3 l (fun y hy => h y (by simp [hy]))
set_option maxHeartbeats 1000000 in
set_option maxRecDepth 100000 in
theorem CompareString_any (a b : ByteArray) (w : World) :
  Calls Tryz.prog 72 #[.string a, .string b] w fun e w' => e = .returned (.int .i64 (cmpS a b)) ∧ w' = w := by
 go_enter Tryz.func72, Tryz.ntmps72
 go_wp2
 rw [run_callFunc_extern Tryz.func105 (by kernel_rfl) (by kernel_rfl) (by kernel_rfl) (e := Extern.BytealgCompare.compare) (by kernel_rfl), Lib.run_compareString]
 simp only [Result.andThen]
 rw [Oper.upon_value]
 go_wp2
 go_ret
 exact ⟨rfl, rfl⟩
theorem strCompare_any (a b : ByteArray) (w : World) :
  Calls Tryz.prog 41 #[.string a, .string b] w fun e w' => e = .returned (.int .i64 (cmpS a b)) ∧ Ext w w' := by
 go_enter Tryz.func41, Tryz.ntmps41
 go_wp2_with fail
 refine (CompareString_any _ _ _).mono ?_
 rintro e w' ⟨rfl, rfl⟩
 go_wp2_with fail
 go_ret
 exact ⟨rfl, Ext.refl _⟩
set_option maxHeartbeats 1000000 in
theorem cmpInt_any (x y : Int) (w : World) :
  Calls Tryz.prog 87 #[.int .i64 x, .int .i64 y] w fun e w' => e = .returned (.int .i64 (cmpI x y)) ∧ Ext w w' := by
 go_enter Tryz.func87, Tryz.ntmps87
 go_wp2
 all_goals (go_ret; refine ⟨?_, Ext.refl _⟩; unfold cmpI; (repeat' split) <;> first | rfl | (exfalso; omega))
set_option maxHeartbeats 1000000 in
theorem cmpInt64_any (x y : Int) (w : World) :
  Calls Tryz.prog 86 #[.int .i64 x, .int .i64 y] w fun e w' => e = .returned (.int .i64 (cmpI x y)) ∧ Ext w w' := by
 go_enter Tryz.func86, Tryz.ntmps86
 go_wp2
 all_goals (go_ret; refine ⟨?_, Ext.refl _⟩; unfold cmpI; (repeat' split) <;> first | rfl | (exfalso; omega))
theorem bools_any (x y : Bool) (w : World) :
  Calls Tryz.prog 85 #[.bool x, .bool y] w fun e w' => e = .returned (.int .i64 (cmpB x y)) ∧ Ext w w' := by
 cases x <;> cases y <;>
  (go_enter Tryz.func85, Tryz.ntmps85
   go_wp2
   go_ret
   exact ⟨rfl, Ext.refl _⟩)
def IntsAt (b o : Nat) (l : List Int) (w : World) : Prop := ∀ i (h : i < l.length), w.cell? ⟨b, o + i, none⟩ = some (.int .i64 l[i])
set_option maxHeartbeats 1000000 in
theorem Or_any (b o c : Nat) (l : List Int) (w : World) (hl : l.length < 1000000) (hc : IntsAt b o l w) :
  Calls Tryz.prog 83 #[.slice (some ⟨b, o, none⟩) l.length c] w fun e w' => e = .returned (.int .i64 (orL l)) ∧ Ext w w' := by
 obtain ⟨R, hR⟩ : ∃ R, orL l = R := ⟨_, rfl⟩
 rw [hR]
 go_enter Tryz.func83, Tryz.ntmps83
 go_wp2_with fail
 go_loopw [8] (fun i wr => ∃ k : Nat, i = .int .i64 k ∧ k ≤ l.length ∧ Hid (orL (l.drop k) = R) ∧ wr = w) (fun i _ => l.length - (intOf i).toNat)
 case atStart => exact ⟨0, rfl, Nat.zero_le _, Lib.hid (by rw [List.drop_zero]; exact hR), rfl⟩
 case round =>
  obtain ⟨k, rfl, hk, hz, rfl⟩ := hrel
  by_cases hlt : k < l.length
  ·have g := hc k hlt
   have hd := hz.out
   rw [List.drop_eq_getElem_cons hlt] at hd
   unfold orL at hd
   generalize l[k] = x at *
   by_cases h0 : x = 0
   ·subst h0
    rw [if_neg (by decide)] at hd
    replace hd := Lib.hid hd
    clear hz hR
    go_wp2_with fail
    go_roundw
    case rel => exact ⟨k + 1, rfl, hlt, hd, by first | trivial | rfl⟩
    case measure => simp only [intOf]; omega
   ·rw [if_pos h0] at hd
    replace hd := Lib.hid hd
    clear hz hR
    go_wp2_with fail
    go_ret
    exact ⟨retI hd.out, Ext.refl _⟩
  ·have hd := hz.out
   rw [List.drop_eq_nil_of_le (by omega)] at hd
   have hk2 : k = l.length := by omega
   subst hk2
   replace hd : Hid ((0 : Int) = R) := Lib.hid hd
   clear hz hR
   go_wp2_with fail
   go_ret
   exact ⟨retI hd.out, Ext.refl _⟩
end Go.Proofs.YtjjnmefihdjglaaGreat
namespace Go.Proofs.YtjjnmefihdjglaaGreat
open Go.RowKit
def LabsAt (b o : Nat) (l : List (ByteArray × ByteArray)) (w : World) : Prop := ∀ i (h : i < l.length), w.cell? ⟨b, o + i * 2, none⟩ = some (.string l[i].1) ∧ w.cell? ⟨b, o + i * 2 + 1, none⟩ = some (.string l[i].2)
def LabA (a : Option Addr) (l : List (ByteArray × ByteArray)) (w : World) : Prop := 0 < l.length → ∃ b o, a = some ⟨b, o, none⟩ ∧ b < w.heap.size ∧ LabsAt b o l w
theorem LabA.ext {a : Option Addr} {l : List (ByteArray × ByteArray)} {w w' : World} (h : LabA a l w) (x : Ext w w') : LabA a l w' := fun h0 => by
 obtain ⟨b, o, rfl, hb, hl⟩ := h h0
 exact ⟨b, o, rfl, Nat.lt_of_lt_of_le hb x.size, fun i hi => ⟨(x.cell hb).trans (hl i hi).1, (x.cell hb).trans (hl i hi).2⟩⟩
theorem LabA.nil (a : Option Addr) (w : World) : LabA a [] w := fun h => absurd h (by simp)
def cmpL (x y : ByteArray × ByteArray) : Int := orL [cmpS x.1 y.1, cmpS x.2 y.2]
def cmpLs : List (ByteArray × ByteArray) → List (ByteArray × ByteArray) → Int
 | [], [] => 0
 | [], _ :: _ => -1
 | _ :: _, [] => 1
 | x :: l, y :: m => if cmpL x y ≠ 0 then cmpL x y else cmpLs l m
theorem cmpL_c3 (x y : ByteArray × ByteArray) : C3 (cmpL x y) := orL_c3 _ (by intro z hz; simp at hz; rcases hz with rfl | rfl <;> exact cmpS_c3 _ _)
theorem cmpLs_c3 : ∀ (l m : List (ByteArray × ByteArray)), C3 (cmpLs l m)
 | [], [] => .inr (.inl rfl)
 | [], _ :: _ => .inl rfl
 | _ :: _, [] => .inr (.inr rfl)
 | x :: l, y :: m => by
   unfold cmpLs
   split
   ·exact cmpL_c3 x y
   ·exact cmpLs_c3 l m
theorem IntsAt.mk {w : World} {b : Nat} {t : TypeId} {fr : Nat × Nat} (l : List Int) (h : w.heap[b]? = some (.cells (l.map fun x => Value.int .i64 x).toArray t fr)) : IntsAt b 0 l w := by
 intro i hi
 rw [Lib.cell_of_heap h]
 simp [hi]
def LabIn (b : Nat) (n v : ByteArray) (w : World) : Prop := w.heap[b]? = some (.cells #[.string n, .string v] 69 (0, 0))
theorem LabIn.ext {b : Nat} {n v : ByteArray} {w w' : World} (h : LabIn b n v w) (hk : Ext w w') : LabIn b n v w' := (hk.heap (Array.getElem?_eq_some_iff.1 h).1).trans h
theorem LabIn.cells {b : Nat} {n v : ByteArray} {w : World} (h : LabIn b n v w) : w.cell? ⟨b, 0, none⟩ = some (.string n) ∧ w.cell? ⟨b, 1, none⟩ = some (.string v) := by
 refine ⟨?_, ?_⟩ <;> (rw [Lib.cell_of_heap h]; rfl)
set_option maxHeartbeats 4000000 in
set_option maxRecDepth 100000 in
theorem cmpL_any (n1 v1 n2 v2 : ByteArray) (w : World) :
  Calls Tryz.prog 116 #[.agg #[.string n1, .string v1], .agg #[.string n2, .string v2]] w fun e w' => e = .returned (.int .i64 (cmpL (n1, v1) (n2, v2))) ∧ Ext w w' := by
 have S1 := fun w => strCompare_any n1 n2 w
 have S2 := fun w => strCompare_any v1 v2 w
 have O : ∀ (b : Nat) (W : World), IntsAt b 0 [cmpS n1 n2, cmpS v1 v2] W → Calls Tryz.prog 83 #[.slice (some ⟨b, 0, none⟩) 2 2] W fun e w' => e = .returned (.int .i64 (orL [cmpS n1 n2, cmpS v1 v2])) ∧ Ext W w' := fun b W h => Or_any b 0 2 [cmpS n1 n2, cmpS v1 v2] W (by simp) h
 unfold cmpL
 dsimp only at *
 generalize orL [cmpS n1 n2, cmpS v1 v2] = R at *
 generalize cmpS n1 n2 = X at *
 generalize cmpS v1 v2 = Y at *
 go_enter Tryz.func116, Tryz.ntmps116
 have hx : Ext w ((w.alloc (.cells #[.string n1, .string v1] 69)).alloc (.cells #[.string n2, .string v2] 69)) := ((Ext.refl _).alloc _).alloc _
 have h1 : LabIn w.heap.size n1 v1 ((w.alloc (.cells #[.string n1, .string v1] 69)).alloc (.cells #[.string n2, .string v2] 69)) := heap_at2a _ _ _
 have h2 : LabIn (w.heap.size + 1) n2 v2 ((w.alloc (.cells #[.string n1, .string v1] 69)).alloc (.cells #[.string n2, .string v2] 69)) := heap_at2b _ _ _
 go_wp2_with fail
 generalize (w.alloc (.cells #[.string n1, .string v1] 69)).alloc (.cells #[.string n2, .string v2] 69) = W at *
 obtain ⟨c0, c1⟩ := h1.cells
 obtain ⟨d0, d1⟩ := h2.cells
 have Z : Ext W W.drew := (Ext.refl _).drew
 go_region_held3 (fun w' => w'.cell? ⟨w.heap.size, 0, none⟩ = some (.string n1) ∧ w'.cell? ⟨w.heap.size, 1, none⟩ = some (.string v1) ∧ w'.cell? ⟨w.heap.size + 1, 0, none⟩ = some (.string n2) ∧ w'.cell? ⟨w.heap.size + 1, 1, none⟩ = some (.string v2)) (first | exact ⟨p0, p1, q0, q1⟩ | exact ⟨c0, c1, d0, d1⟩ | go_keep) (first
  | (go_at_call 41; (with_reducible refine (S1 _).mono ?_); rintro e wz ⟨rfl, xz⟩; replace Z := Z.trans xz; have p0 := (h1.ext Z).cells.1; have p1 := (h1.ext Z).cells.2; have q0 := (h2.ext Z).cells.1; have q1 := (h2.ext Z).cells.2)
  | (go_at_call 41; (with_reducible refine (S2 _).mono ?_); rintro e wz ⟨rfl, xz⟩; replace Z := Z.trans xz; have p0 := (h1.ext Z).cells.1; have p1 := (h1.ext Z).cells.2; have q0 := (h2.ext Z).cells.1; have q1 := (h2.ext Z).cells.2)
  | (go_at_call 83; (with_reducible refine (O _ _ ?h).mono ?_); (case h => exact IntsAt.mk [X, Y] (heap_last _ _)); rintro e wy ⟨rfl, xz⟩; replace Z := (Z.alloc _).trans xz; have p0 := (h1.ext Z).cells.1; have p1 := (h1.ext Z).cells.2; have q0 := (h2.ext Z).cells.1; have q1 := (h2.ext Z).cells.2))
 all_goals
  go_wp2_with fail
  go_ret
  exact ⟨rfl, hx.trans Z⟩
set_option maxHeartbeats 4000000 in
set_option maxRecDepth 100000 in
theorem cmpFunc_any (a1 a2 : Option Addr) (c1 c2 : Nat) (l m : List (ByteArray × ByteArray)) (w : World) (hl : (l.length : Int) ≤ 9223372036854775807) (hm : (m.length : Int) ≤ 9223372036854775807) (h1 : LabA a1 l w) (h2 : LabA a2 m w) :
  Calls Tryz.prog 115 #[.slice a1 l.length c1, .slice a2 m.length c2, .func (.func 116) #[] #[]] w fun e w' => e = .returned (.int .i64 (cmpLs l m)) ∧ Ext w w' := by
 obtain ⟨R, hR⟩ : ∃ R, cmpLs l m = R := ⟨_, rfl⟩
 rw [hR]
 go_enter Tryz.func115, Tryz.ntmps115
 go_wp2_with fail
 go_loopw [13] (fun i wr => ∃ k : Nat, i = .int .i64 k ∧ k ≤ l.length ∧ k ≤ m.length ∧ Hid (cmpLs (l.drop k) (m.drop k) = R) ∧ Ext w wr) (fun i _ => l.length - (intOf i).toNat)
 case atStart => exact ⟨0, rfl, Nat.zero_le _, Nat.zero_le _, Lib.hid hR, Ext.refl _⟩
 case round =>
  obtain ⟨k, rfl, hk, hk2, hz, xr⟩ := hrel
  have hd := hz.out
  clear hz hR
  by_cases hlt : k < l.length
  ·rw [List.drop_eq_getElem_cons hlt] at hd
   obtain ⟨b1, o1, rfl, hb1, hL⟩ := h1 (by omega)
   obtain ⟨q0, q1⟩ := hL k hlt
   have r0 := (xr.cell (p := ⟨b1, o1 + k * 2, none⟩) hb1).trans q0
   have r1 := (xr.cell (p := ⟨b1, o1 + k * 2 + 1, none⟩) hb1).trans q1
   clear q0 q1
   by_cases hlt2 : k < m.length
   ·rw [List.drop_eq_getElem_cons hlt2] at hd
    unfold cmpLs at hd
    obtain ⟨b2, o2, rfl, hb2, hM⟩ := h2 (by omega)
    obtain ⟨q0, q1⟩ := hM k hlt2
    have s0 := (xr.cell (p := ⟨b2, o2 + k * 2, none⟩) hb2).trans q0
    have s1 := (xr.cell (p := ⟨b2, o2 + k * 2 + 1, none⟩) hb2).trans q1
    clear q0 q1
    obtain ⟨x1, x2, ex⟩ : ∃ x1 x2, l[k] = (x1, x2) := ⟨_, _, rfl⟩
    obtain ⟨y1, y2, ey⟩ : ∃ y1 y2, m[k] = (y1, y2) := ⟨_, _, rfl⟩
    rw [ex] at hd r0 r1
    rw [ey] at hd s0 s1
    dsimp only at r0 r1 s0 s1
    have CC := fun w => cmpL_any x1 x2 y1 y2 w
    obtain ⟨cv, hcv⟩ : ∃ cv, cmpL (x1, x2) (y1, y2) = cv := ⟨_, rfl⟩
    rw [hcv] at CC hd
    have k1 := Nat.lt_of_lt_of_le hb1 xr.size
    have k2 := Nat.lt_of_lt_of_le hb2 xr.size
    by_cases h0 : cv = 0
    ·subst h0
     rw [if_neg (by decide)] at hd
     replace hd := Lib.hid hd
     clear h1 h2 hL hM hcv ex ey
     go_wp2_with fail
     (with_reducible refine (CC _).mono ?_)
     rintro e w1 ⟨rfl, z1⟩
     replace xr := (((xr.alloc _).alloc _)).trans z1
     clear r0 r1 s0 s1
     go_wp2_with fail
     go_roundw
     case rel => exact ⟨k + 1, rfl, hlt, hlt2, hd, xr⟩
     case measure => simp only [intOf]; omega
    ·rw [if_pos h0] at hd
     replace hd := Lib.hid hd
     clear h1 h2 hL hM hcv ex ey
     go_wp2_with fail
     (with_reducible refine (CC _).mono ?_)
     rintro e w1 ⟨rfl, z1⟩
     replace xr := (((xr.alloc _).alloc _)).trans z1
     clear r0 r1 s0 s1
     go_wp2_with fail
     go_ret
     exact ⟨retI hd.out, xr⟩
   ·rw [show m.drop k = [] from List.drop_eq_nil_of_le (by omega)] at hd
    replace hd : Hid ((1 : Int) = R) := Lib.hid hd
    have hk3 : m.length ≤ k := by omega
    clear h1 hL hk2 hlt2
    go_wp2_with fail
    go_ret
    exact ⟨retI hd.out, xr.alloc _⟩
  ·rw [show l.drop k = [] from List.drop_eq_nil_of_le (by omega)] at hd
   have hk3 : k = l.length := by omega
   by_cases hlt2 : k < m.length
   ·rw [List.drop_eq_getElem_cons hlt2] at hd
    replace hd : Hid ((-1 : Int) = R) := Lib.hid hd
    clear h1 h2
    go_wp2_with fail
    go_ret
    exact ⟨retI hd.out, xr⟩
   ·rw [show m.drop k = [] from List.drop_eq_nil_of_le (by omega)] at hd
    replace hd : Hid ((0 : Int) = R) := Lib.hid hd
    have hk4 : k = m.length := by omega
    clear h1 h2
    go_wp2_with fail
    go_ret
    exact ⟨retI hd.out, xr⟩
theorem labCompare_any (a1 a2 : Option Addr) (c1 c2 : Nat) (l m : List (ByteArray × ByteArray)) (w : World) (hl : (l.length : Int) ≤ 9223372036854775807) (hm : (m.length : Int) ≤ 9223372036854775807) (h1 : LabA a1 l w) (h2 : LabA a2 m w) :
  Calls Tryz.prog 84 #[.slice a1 l.length c1, .slice a2 m.length c2] w fun e w' => e = .returned (.int .i64 (cmpLs l m)) ∧ Ext w w' := by
 go_enter Tryz.func84, Tryz.ntmps84
 go_wp2_with fail
 (with_reducible refine (cmpFunc_any a1 a2 c1 c2 l m _ hl hm h1 h2).mono ?_)
 rintro e w1 ⟨rfl, z1⟩
 go_wp2_with fail
 go_ret
 exact ⟨rfl, z1⟩
end Go.Proofs.YtjjnmefihdjglaaGreat
namespace Go.Proofs.YtjjnmefihdjglaaGreat
open Go.RowKit
def upd {α : Type} (x : Nat → α) (k : Nat) (v : α) : Nat → α := fun n => if n = k then v else x n
theorem upd_same {α : Type} (x : Nat → α) (k : Nat) (v : α) : upd x k v k = v := if_pos rfl
theorem upd_other {α : Type} (x : Nat → α) {k j : Nat} (v : α) (h : j ≠ k) : upd x k v j = x j := if_neg h
def open_ (f : Nat → Bool) : Nat → Nat
 | 0 => 0
 | n + 1 => (if f n then 0 else 1) + open_ f n
theorem open_le (f : Nat → Bool) : ∀ n, open_ f n ≤ n
 | 0 => Nat.le_refl _
 | n + 1 => by
   have := open_le f n
   unfold open_
   split <;> omega
theorem open_zero (f : Nat → Bool) : ∀ n, open_ f n = 0 → ∀ k, k < n → f k = true
 | 0, _, k, hk => by omega
 | n + 1, h, k, hk => by
   unfold open_ at h
   by_cases hf : f n = true
   ·by_cases e : k = n
    ·subst e; exact hf
    ·rw [if_pos hf] at h
     exact open_zero f n (by omega) k (by omega)
   ·rw [if_neg hf] at h; omega
theorem open_upd_out (f : Nat → Bool) (k : Nat) : ∀ n, n ≤ k → open_ (upd f k true) n = open_ f n
 | 0, _ => rfl
 | n + 1, h => by
   unfold open_
   rw [upd_other f true (by omega), open_upd_out f k n (by omega)]
theorem open_upd (f : Nat → Bool) (k : Nat) (hf : f k = false) : ∀ n, k < n → open_ f n = open_ (upd f k true) n + 1
 | 0, h => by omega
 | n + 1, h => by
   by_cases e : k = n
   ·subst e
    unfold open_
    rw [upd_same, hf, open_upd_out f k k (Nat.le_refl _)]
    simp; omega
   ·unfold open_
    rw [upd_other f true (by omega), open_upd f k hf n (by omega)]
    omega
theorem open_pos (f : Nat → Bool) : ∀ n, 0 < open_ f n → ∃ k, k < n ∧ f k = false
 | 0, h => by simp [open_] at h
 | n + 1, h => by
   cases hf : f n with
   | false => exact ⟨n, by omega, hf⟩
   | true =>
     unfold open_ at h
     rw [hf] at h
     obtain ⟨k, hk, hk2⟩ := open_pos f n (by simpa using h)
     exact ⟨k, by omega, hk2⟩
theorem getD_set {α : Type} (l : List α) (k : Nat) (v d : α) (hk : k < l.length) : (fun j => (l.set k v).getD j d) = upd (fun j => l.getD j d) k v := by
 funext j
 unfold upd
 by_cases e : j = k
 ·subst e
  rw [if_pos rfl]
  simp [List.getD, hk]
 ·rw [if_neg e]
  simp [List.getD, Ne.symm e]
def readyOk (md : Region.Mode) (ops : Array Oper) (idx : List Nat) (L : List Bool → Array Bool) (bs : List Bool) : Bool :=
 bs.all id || (!(Region.ready md ops (L bs)).isEmpty && (Region.ready md ops (L bs)).all fun i => (List.range bs.length).any fun k => !(bs.getD k true) && i == idx.getD k 0)
theorem wpAnyH_calls {P : Program} {md : Region.Mode} {ops : Array Oper} {Q : Exit → Act → World → Prop} {S : World → Prop}
  (n m : Nat) (idx : List Nat) (val : List Value) (A : List Value → Act) (L : List Bool → Array Bool) (J : World → Prop) (hS : ∀ w, J w → S w)
  (hready : ∀ bs : List Bool, bs.length = n → readyOk md ops idx L bs = true)
  (hset : ∀ (bs : List Bool) k, bs.length = n → k < n → (L bs).setIfInBounds (idx.getD k 0) true = L (bs.set k true))
  (hcall : ∀ (x : List Value) k, x.length = n → k < n → ∀ (K : Act → World → Prop) w, J w → (∀ w', J w' → K (A (x.set k (val.getD k undef))) w') → wpOp P ops Q (idx.getD k 0) K (A x) w)
  (hdone : ∀ (bs : List Bool) (x : List Value) w, bs.length = n → x.length = n → J w → (∀ k, k < n → bs.getD k true = true ∧ x.getD k undef = val.getD k undef) → wpAnyH P md ops Q S m (L bs) (A x) w) :
  ∀ (c : Nat) (bs : List Bool) (x : List Value) (w : World), bs.length = n → x.length = n → open_ (fun k => bs.getD k true) n = c → J w → (∀ k, k < n → bs.getD k true = true → x.getD k undef = val.getD k undef) → wpAnyH P md ops Q S (c + m) (L bs) (A x) w
 | 0, bs, x, w, hb, hl, hc, hJ, hx => by
   have hall := open_zero (fun k => bs.getD k true) n hc
   rw [Nat.zero_add]
   exact hdone bs x w hb hl hJ (fun k hk => ⟨hall k hk, hx k hk (hall k hk)⟩)
 | c + 1, bs, x, w, hb, hl, hc, hJ, hx => by
   have hr := hready bs hb
   unfold readyOk at hr
   obtain ⟨k0, hk0, hf0⟩ := open_pos (fun k => bs.getD k true) n (by omega)
   have hna : bs.all id = false := by
    cases hh : bs.all id with
    | false => rfl
    | true =>
      exfalso
      have h0 : k0 < bs.length := by omega
      have := List.all_eq_true.1 hh bs[k0] (List.getElem_mem h0)
      simp [List.getD, h0] at hf0
      simp [hf0] at this
   rw [hna, Bool.false_or, Bool.and_eq_true] at hr
   obtain ⟨hne, hal⟩ := hr
   rw [show c + 1 + m = (c + m) + 1 from by omega]
   refine ⟨fun h0 => by rw [h0] at hne; simp at hne, fun i hi => ?_⟩
   have hi2 := List.all_eq_true.1 hal i hi
   obtain ⟨k, hk, hk2⟩ := List.any_eq_true.1 hi2
   have hk3 : k < n := by have := List.mem_range.1 hk; omega
   rw [Bool.and_eq_true] at hk2
   obtain ⟨hf, hik⟩ := hk2
   have hf' : bs.getD k true = false := by simpa using hf
   have hik' : i = idx.getD k 0 := by simpa using hik
   subst hik'
   refine hcall x k hl hk3 _ w hJ (fun w' hJ' => ⟨hS w' hJ', ?_⟩)
   rw [hset bs k hb hk3]
   have ho := open_upd (fun j => bs.getD j true) k hf' n hk3
   have hg := getD_set bs k true true (by omega)
   have hg2 := getD_set x k (val.getD k undef) undef (by omega)
   refine wpAnyH_calls n m idx val A L J hS hready hset hcall hdone c (bs.set k true) (x.set k (val.getD k undef)) w' (by simpa using hb) (by simpa using hl) (by rw [hg]; omega) hJ' (fun j hj hfj => ?_)
   have e1 : (bs.set k true).getD j true = upd (fun j => bs.getD j true) k true j := congrFun hg j
   have e2 : (x.set k (val.getD k undef)).getD j undef = upd (fun j => x.getD j undef) k (val.getD k undef) j := congrFun hg2 j
   rw [e2]
   rw [e1] at hfj
   by_cases e : j = k
   ·subst e; exact upd_same _ _ _
   ·rw [upd_other _ _ e]
    rw [upd_other _ _ e] at hfj
    exact hx j hj hfj
theorem wpAnyH_calls_at {P : Program} {md : Region.Mode} {ops : Array Oper} {Q : Exit → Act → World → Prop} {S : World → Prop} {fuel : Nat} {listed : Array Bool} {a : Act} {w : World}
  (n m : Nat) (idx : List Nat) (val : List Value) (A : List Value → Act) (L : List Bool → Array Bool) (J : World → Prop)
  (hl : listed = L (List.replicate n false)) (ha : a = A (List.replicate n undef)) (hf : fuel = n + m) (hS : ∀ w, J w → S w)
  (hready : ∀ bs : List Bool, bs.length = n → readyOk md ops idx L bs = true)
  (hset : ∀ (bs : List Bool) k, bs.length = n → k < n → (L bs).setIfInBounds (idx.getD k 0) true = L (bs.set k true))
  (hcall : ∀ (x : List Value) k, x.length = n → k < n → ∀ (K : Act → World → Prop) w, J w → (∀ w', J w' → K (A (x.set k (val.getD k undef))) w') → wpOp P ops Q (idx.getD k 0) K (A x) w)
  (hdone : ∀ (bs : List Bool) (x : List Value) w, bs.length = n → x.length = n → J w → (∀ k, k < n → bs.getD k true = true ∧ x.getD k undef = val.getD k undef) → wpAnyH P md ops Q S m (L bs) (A x) w)
  (hJ : J w) : wpAnyH P md ops Q S fuel listed a w := by
 subst hl ha hf
 have ho : ∀ k, k ≤ n → open_ (fun j => (List.replicate n false).getD j true) k = k := by
  intro k
  induction k with
  | zero => intro _; rfl
  | succ k ih =>
    intro hk
    unfold open_
    rw [ih (by omega)]
    have : (List.replicate n false).getD k true = false := by simp [List.getD, show k < n from by omega]
    rw [this]
    simp; omega
 exact wpAnyH_calls n m idx val A L J hS hready hset hcall hdone n _ _ w (by simp) (by simp) (ho n (Nat.le_refl _)) hJ (fun k hk h => by
  have : (List.replicate n false).getD k true = false := by simp [List.getD, hk]
  rw [this] at h
  cases h)
end Go.Proofs.YtjjnmefihdjglaaGreat
namespace Go.Proofs.YtjjnmefihdjglaaGreat
open Go.RowKit
def ptV (v : Value) (r : Int) (f : Bool) (M S m s : Int) (t : Bool) (T : Int) : Value := .agg #[v, .int .i64 r, .bool f, .int .i64 M, .int .i64 S, .int .i64 m, .int .i64 s, .bool t, .int .i64 T]
def PtIn (b : Nat) (v : Value) (r : Int) (f : Bool) (M S m s : Int) (t : Bool) (T : Int) (w : World) : Prop := w.heap[b]? = some (.cells #[v, .int .i64 r, .bool f, .int .i64 M, .int .i64 S, .int .i64 m, .int .i64 s, .bool t, .int .i64 T] 40 (0, 0))
theorem PtIn.ext {b : Nat} {v : Value} {r : Int} {f : Bool} {M S m s : Int} {t : Bool} {T : Int} {w w' : World} (h : PtIn b v r f M S m s t T w) (hk : Ext w w') : PtIn b v r f M S m s t T w' := (hk.heap (Array.getElem?_eq_some_iff.1 h).1).trans h
theorem PtIn.cells {b : Nat} {v : Value} {r : Int} {f : Bool} {M S m s : Int} {t : Bool} {T : Int} {w : World} (h : PtIn b v r f M S m s t T w) :
  w.cell? ⟨b, 0, none⟩ = some v ∧ w.cell? ⟨b, 1, none⟩ = some (.int .i64 r) ∧ w.cell? ⟨b, 2, none⟩ = some (.bool f) ∧ w.cell? ⟨b, 3, none⟩ = some (.int .i64 M) ∧ w.cell? ⟨b, 4, none⟩ = some (.int .i64 S) ∧ w.cell? ⟨b, 5, none⟩ = some (.int .i64 m) ∧ w.cell? ⟨b, 6, none⟩ = some (.int .i64 s) ∧ w.cell? ⟨b, 7, none⟩ = some (.bool t) ∧ w.cell? ⟨b, 8, none⟩ = some (.int .i64 T) := by
 refine ⟨?_, ?_, ?_, ?_, ?_, ?_, ?_, ?_, ?_⟩ <;> (rw [Lib.cell_of_heap h]; rfl)
def Pts (w : World) (b1 b2 : Nat) (v1 v2 : Value) (r1 : Int) (f1 : Bool) (M1 S1 m1 s1 : Int) (t1 : Bool) (T1 : Int) (r2 : Int) (f2 : Bool) (M2 S2 m2 s2 : Int) (t2 : Bool) (T2 : Int) (W : World) : Prop := Ext w W ∧ PtIn b1 v1 r1 f1 M1 S1 m1 s1 t1 T1 W ∧ PtIn b2 v2 r2 f2 M2 S2 m2 s2 t2 T2 W
theorem Pts.ext {w : World} {b1 b2 : Nat} {v1 v2 : Value} {r1 : Int} {f1 : Bool} {M1 S1 m1 s1 : Int} {t1 : Bool} {T1 : Int} {r2 : Int} {f2 : Bool} {M2 S2 m2 s2 : Int} {t2 : Bool} {T2 : Int} {W W' : World} (h : Pts w b1 b2 v1 v2 r1 f1 M1 S1 m1 s1 t1 T1 r2 f2 M2 S2 m2 s2 t2 T2 W) (x : Ext W W') : Pts w b1 b2 v1 v2 r1 f1 M1 S1 m1 s1 t1 T1 r2 f2 M2 S2 m2 s2 t2 T2 W' := ⟨h.1.trans x, h.2.1.ext x, h.2.2.ext x⟩
theorem six {α : Type} (l : List α) (h : l.length = 6) : ∃ a b c d e f, l = [a, b, c, d, e, f] := by
 match l, h with
 | [a, b, c, d, e, f], _ => exact ⟨a, b, c, d, e, f, rfl⟩
def cmpP (l1 : List (ByteArray × ByteArray)) (r1 : Int) (f1 : Bool) (M1 S1 : Int) (t1 : Bool) (T1 : Int) (l2 : List (ByteArray × ByteArray)) (r2 : Int) (f2 : Bool) (M2 S2 : Int) (t2 : Bool) (T2 : Int) : Int :=
 orL [cmpLs l1 l2, cmpB t1 t2, cmpI T1 T2, cmpI r1 r2, cmpB f1 f2, cmpD (cM M1 S1) (cS M1 S1) (cM M2 S2) (cS M2 S2)]
set_option maxHeartbeats 40000000 in
set_option maxRecDepth 100000 in
theorem ptCompare_any (a1 a2 : Option Addr) (c1 c2 : Nat) (l1 l2 : List (ByteArray × ByteArray)) (r1 : Int) (f1 : Bool) (M1 S1 m1 s1 : Int) (t1 : Bool) (T1 : Int) (r2 : Int) (f2 : Bool) (M2 S2 m2 s2 : Int) (t2 : Bool) (T2 : Int) (w : World)
  (n1 : (l1.length : Int) ≤ 9223372036854775807) (n2 : (l2.length : Int) ≤ 9223372036854775807) (h1 : LabA a1 l1 w) (h2 : LabA a2 l2 w) (i1 : I64 M1) (j1 : I64 S1) (i2 : I64 M2) (j2 : I64 S2) :
  Calls Tryz.prog 56 #[ptV (.slice a1 l1.length c1) r1 f1 M1 S1 m1 s1 t1 T1, ptV (.slice a2 l2.length c2) r2 f2 M2 S2 m2 s2 t2 T2] w fun e w' => e = .returned (.int .i64 (cmpP l1 r1 f1 M1 S1 t1 T1 l2 r2 f2 M2 S2 t2 T2)) ∧ Ext w w' := by
 have K1 := fun W (x : Ext w W) => labCompare_any a1 a2 c1 c2 l1 l2 W n1 n2 (h1.ext x) (h2.ext x)
 have K2 := fun W => bools_any t1 t2 W
 have K3 := fun W => cmpInt64_any T1 T2 W
 have K4 := fun W => cmpInt_any r1 r2 W
 have K5 := fun W => bools_any f1 f2 W
 have K6 := fun W => Compare_any M1 S1 M2 S2 W i1 j1 i2 j2
 have O : ∀ (b : Nat) (W : World), IntsAt b 0 [cmpLs l1 l2, cmpB t1 t2, cmpI T1 T2, cmpI r1 r2, cmpB f1 f2, cmpD (cM M1 S1) (cS M1 S1) (cM M2 S2) (cS M2 S2)] W → Calls Tryz.prog 83 #[.slice (some ⟨b, 0, none⟩) 6 6] W fun e w' => e = .returned (.int .i64 (cmpP l1 r1 f1 M1 S1 t1 T1 l2 r2 f2 M2 S2 t2 T2)) ∧ Ext W w' := fun b W h => Or_any b 0 6 [cmpLs l1 l2, cmpB t1 t2, cmpI T1 T2, cmpI r1 r2, cmpB f1 f2, cmpD (cM M1 S1) (cS M1 S1) (cM M2 S2) (cS M2 S2)] W (by simp) h
 generalize cmpP l1 r1 f1 M1 S1 t1 T1 l2 r2 f2 M2 S2 t2 T2 = R at *
 generalize cmpLs l1 l2 = X0 at *
 generalize cmpB t1 t2 = X1 at *
 generalize cmpI T1 T2 = X2 at *
 generalize cmpI r1 r2 = X3 at *
 generalize cmpB f1 f2 = X4 at *
 generalize cmpD (cM M1 S1) (cS M1 S1) (cM M2 S2) (cS M2 S2) = X5 at *
 obtain ⟨v1, hv1⟩ : ∃ v, Value.slice a1 l1.length c1 = v := ⟨_, rfl⟩
 obtain ⟨v2, hv2⟩ : ∃ v, Value.slice a2 l2.length c2 = v := ⟨_, rfl⟩
 rw [hv1, hv2] at K1
 rw [hv1, hv2]
 unfold decV at K6
 unfold ptV
 clear hv1 hv2 h1 h2 n1 n2 i1 j1 i2 j2
 have hx : Ext w ((w.alloc (.cells #[v1, .int .i64 r1, .bool f1, .int .i64 M1, .int .i64 S1, .int .i64 m1, .int .i64 s1, .bool t1, .int .i64 T1] 40)).alloc (.cells #[v2, .int .i64 r2, .bool f2, .int .i64 M2, .int .i64 S2, .int .i64 m2, .int .i64 s2, .bool t2, .int .i64 T2] 40)) := ((Ext.refl _).alloc _).alloc _
 have g1 : PtIn w.heap.size v1 r1 f1 M1 S1 m1 s1 t1 T1 ((w.alloc (.cells #[v1, .int .i64 r1, .bool f1, .int .i64 M1, .int .i64 S1, .int .i64 m1, .int .i64 s1, .bool t1, .int .i64 T1] 40)).alloc (.cells #[v2, .int .i64 r2, .bool f2, .int .i64 M2, .int .i64 S2, .int .i64 m2, .int .i64 s2, .bool t2, .int .i64 T2] 40)) := heap_at2a _ _ _
 have g2 : PtIn (w.heap.size + 1) v2 r2 f2 M2 S2 m2 s2 t2 T2 ((w.alloc (.cells #[v1, .int .i64 r1, .bool f1, .int .i64 M1, .int .i64 S1, .int .i64 m1, .int .i64 s1, .bool t1, .int .i64 T1] 40)).alloc (.cells #[v2, .int .i64 r2, .bool f2, .int .i64 M2, .int .i64 S2, .int .i64 m2, .int .i64 s2, .bool t2, .int .i64 T2] 40)) := heap_at2b _ _ _
 go_enter Tryz.func56, Tryz.ntmps56
 go_wp2_with fail
 generalize (w.alloc (.cells #[v1, .int .i64 r1, .bool f1, .int .i64 M1, .int .i64 S1, .int .i64 m1, .int .i64 s1, .bool t1, .int .i64 T1] 40)).alloc (.cells #[v2, .int .i64 r2, .bool f2, .int .i64 M2, .int .i64 S2, .int .i64 m2, .int .i64 s2, .bool t2, .int .i64 T2] 40) = W at *
 have hJ0 : Pts w w.heap.size (w.heap.size + 1) v1 v2 r1 f1 M1 S1 m1 s1 t1 T1 r2 f2 M2 S2 m2 s2 t2 T2 W.drew := ⟨hx.drew, g1.ext (Ext.refl _).drew, g2.ext (Ext.refl _).drew⟩
 clear hx g1 g2
 refine wp_region_held_drew (S := Pts w w.heap.size (w.heap.size + 1) v1 v2 r1 f1 M1 S1 m1 s1 t1 T1 r2 f2 M2 S2 m2 s2 t2 T2) (by kernel_rfl) hJ0 (fun hHeld => ?_)
 refine wpAnyH_take (i := 0) (oi := ?oi0) (v := ?v0) ?hi0 (by kernel_rfl) (by kernel_rfl) (by kernel_rfl) ?hQ0 (Or.inl ⟨?hw0, ?hy0⟩) hHeld ?rest0
 case hi0 => simp only [List.getElem?_toArray, List.getElem?_cons_zero]; rfl
 case hQ0 => exact fun _ _ _ h => h
 case hw0 => rfl
 case hy0 => (intro w9 hSw; obtain ⟨k0, k1, k2, k3, k4, k5, k6, k7, k8⟩ := hSw.2.1.cells; obtain ⟨p0, p1, p2, p3, p4, p5, p6, p7, p8⟩ := hSw.2.2.cells; go_simp; (try with_reducible rfl))
 case rest0 =>
 simp only [Act.put, List.setIfInBounds_toArray, List.set_cons_zero, List.set_cons_succ]
 refine wpAnyH_take (i := 1) (oi := ?oi1) (v := ?v1) ?hi1 (by kernel_rfl) (by kernel_rfl) (by kernel_rfl) ?hQ1 (Or.inl ⟨?hw1, ?hy1⟩) hHeld ?rest1
 case hi1 => simp only [List.getElem?_toArray, List.getElem?_cons_succ, List.getElem?_cons_zero]; rfl
 case hQ1 => exact fun _ _ _ h => h
 case hw1 => rfl
 case hy1 => (intro w9 hSw; obtain ⟨k0, k1, k2, k3, k4, k5, k6, k7, k8⟩ := hSw.2.1.cells; obtain ⟨p0, p1, p2, p3, p4, p5, p6, p7, p8⟩ := hSw.2.2.cells; go_simp; (try with_reducible rfl))
 case rest1 =>
 simp only [Act.put, List.setIfInBounds_toArray, List.set_cons_zero, List.set_cons_succ]
 refine wpAnyH_take (i := 2) (oi := ?oi2) (v := ?v2) ?hi2 (by kernel_rfl) (by kernel_rfl) (by kernel_rfl) ?hQ2 (Or.inl ⟨?hw2, ?hy2⟩) hHeld ?rest2
 case hi2 => simp only [List.getElem?_toArray, List.getElem?_cons_succ, List.getElem?_cons_zero]; rfl
 case hQ2 => exact fun _ _ _ h => h
 case hw2 => rfl
 case hy2 => (intro w9 hSw; obtain ⟨k0, k1, k2, k3, k4, k5, k6, k7, k8⟩ := hSw.2.1.cells; obtain ⟨p0, p1, p2, p3, p4, p5, p6, p7, p8⟩ := hSw.2.2.cells; go_simp; (try with_reducible rfl))
 case rest2 =>
 simp only [Act.put, List.setIfInBounds_toArray, List.set_cons_zero, List.set_cons_succ]
 refine wpAnyH_take (i := 3) (oi := ?oi3) (v := ?v3) ?hi3 (by kernel_rfl) (by kernel_rfl) (by kernel_rfl) ?hQ3 (Or.inl ⟨?hw3, ?hy3⟩) hHeld ?rest3
 case hi3 => simp only [List.getElem?_toArray, List.getElem?_cons_succ, List.getElem?_cons_zero]; rfl
 case hQ3 => exact fun _ _ _ h => h
 case hw3 => rfl
 case hy3 => (intro w9 hSw; obtain ⟨k0, k1, k2, k3, k4, k5, k6, k7, k8⟩ := hSw.2.1.cells; obtain ⟨p0, p1, p2, p3, p4, p5, p6, p7, p8⟩ := hSw.2.2.cells; go_simp; (try with_reducible rfl))
 case rest3 =>
 simp only [Act.put, List.setIfInBounds_toArray, List.set_cons_zero, List.set_cons_succ]
 refine wpAnyH_take (i := 5) (oi := ?oi5) (v := ?v5) ?hi5 (by kernel_rfl) (by kernel_rfl) (by kernel_rfl) ?hQ5 (Or.inl ⟨?hw5, ?hy5⟩) hHeld ?rest5
 case hi5 => simp only [List.getElem?_toArray, List.getElem?_cons_succ, List.getElem?_cons_zero]; rfl
 case hQ5 => exact fun _ _ _ h => h
 case hw5 => rfl
 case hy5 => (intro w9 hSw; obtain ⟨k0, k1, k2, k3, k4, k5, k6, k7, k8⟩ := hSw.2.1.cells; obtain ⟨p0, p1, p2, p3, p4, p5, p6, p7, p8⟩ := hSw.2.2.cells; go_simp; (try with_reducible rfl))
 case rest5 =>
 simp only [Act.put, List.setIfInBounds_toArray, List.set_cons_zero, List.set_cons_succ]
 refine wpAnyH_take (i := 6) (oi := ?oi6) (v := ?v6) ?hi6 (by kernel_rfl) (by kernel_rfl) (by kernel_rfl) ?hQ6 (Or.inl ⟨?hw6, ?hy6⟩) hHeld ?rest6
 case hi6 => simp only [List.getElem?_toArray, List.getElem?_cons_succ, List.getElem?_cons_zero]; rfl
 case hQ6 => exact fun _ _ _ h => h
 case hw6 => rfl
 case hy6 => (intro w9 hSw; obtain ⟨k0, k1, k2, k3, k4, k5, k6, k7, k8⟩ := hSw.2.1.cells; obtain ⟨p0, p1, p2, p3, p4, p5, p6, p7, p8⟩ := hSw.2.2.cells; go_simp; (try with_reducible rfl))
 case rest6 =>
 simp only [Act.put, List.setIfInBounds_toArray, List.set_cons_zero, List.set_cons_succ]
 refine wpAnyH_take (i := 7) (oi := ?oi7) (v := ?v7) ?hi7 (by kernel_rfl) (by kernel_rfl) (by kernel_rfl) ?hQ7 (Or.inl ⟨?hw7, ?hy7⟩) hHeld ?rest7
 case hi7 => simp only [List.getElem?_toArray, List.getElem?_cons_succ, List.getElem?_cons_zero]; rfl
 case hQ7 => exact fun _ _ _ h => h
 case hw7 => rfl
 case hy7 => (intro w9 hSw; obtain ⟨k0, k1, k2, k3, k4, k5, k6, k7, k8⟩ := hSw.2.1.cells; obtain ⟨p0, p1, p2, p3, p4, p5, p6, p7, p8⟩ := hSw.2.2.cells; go_simp; (try with_reducible rfl))
 case rest7 =>
 simp only [Act.put, List.setIfInBounds_toArray, List.set_cons_zero, List.set_cons_succ]
 refine wpAnyH_take (i := 8) (oi := ?oi8) (v := ?v8) ?hi8 (by kernel_rfl) (by kernel_rfl) (by kernel_rfl) ?hQ8 (Or.inl ⟨?hw8, ?hy8⟩) hHeld ?rest8
 case hi8 => simp only [List.getElem?_toArray, List.getElem?_cons_succ, List.getElem?_cons_zero]; rfl
 case hQ8 => exact fun _ _ _ h => h
 case hw8 => rfl
 case hy8 => (intro w9 hSw; obtain ⟨k0, k1, k2, k3, k4, k5, k6, k7, k8⟩ := hSw.2.1.cells; obtain ⟨p0, p1, p2, p3, p4, p5, p6, p7, p8⟩ := hSw.2.2.cells; go_simp; (try with_reducible rfl))
 case rest8 =>
 simp only [Act.put, List.setIfInBounds_toArray, List.set_cons_zero, List.set_cons_succ]
 refine wpAnyH_take (i := 10) (oi := ?oi10) (v := ?v10) ?hi10 (by kernel_rfl) (by kernel_rfl) (by kernel_rfl) ?hQ10 (Or.inl ⟨?hw10, ?hy10⟩) hHeld ?rest10
 case hi10 => simp only [List.getElem?_toArray, List.getElem?_cons_succ, List.getElem?_cons_zero]; rfl
 case hQ10 => exact fun _ _ _ h => h
 case hw10 => rfl
 case hy10 => (intro w9 hSw; obtain ⟨k0, k1, k2, k3, k4, k5, k6, k7, k8⟩ := hSw.2.1.cells; obtain ⟨p0, p1, p2, p3, p4, p5, p6, p7, p8⟩ := hSw.2.2.cells; go_simp; (try with_reducible rfl))
 case rest10 =>
 simp only [Act.put, List.setIfInBounds_toArray, List.set_cons_zero, List.set_cons_succ]
 refine wpAnyH_take (i := 11) (oi := ?oi11) (v := ?v11) ?hi11 (by kernel_rfl) (by kernel_rfl) (by kernel_rfl) ?hQ11 (Or.inl ⟨?hw11, ?hy11⟩) hHeld ?rest11
 case hi11 => simp only [List.getElem?_toArray, List.getElem?_cons_succ, List.getElem?_cons_zero]; rfl
 case hQ11 => exact fun _ _ _ h => h
 case hw11 => rfl
 case hy11 => (intro w9 hSw; obtain ⟨k0, k1, k2, k3, k4, k5, k6, k7, k8⟩ := hSw.2.1.cells; obtain ⟨p0, p1, p2, p3, p4, p5, p6, p7, p8⟩ := hSw.2.2.cells; go_simp; (try with_reducible rfl))
 case rest11 =>
 simp only [Act.put, List.setIfInBounds_toArray, List.set_cons_zero, List.set_cons_succ]
 refine wpAnyH_take (i := 12) (oi := ?oi12) (v := ?v12) ?hi12 (by kernel_rfl) (by kernel_rfl) (by kernel_rfl) ?hQ12 (Or.inl ⟨?hw12, ?hy12⟩) hHeld ?rest12
 case hi12 => simp only [List.getElem?_toArray, List.getElem?_cons_succ, List.getElem?_cons_zero]; rfl
 case hQ12 => exact fun _ _ _ h => h
 case hw12 => rfl
 case hy12 => (intro w9 hSw; obtain ⟨k0, k1, k2, k3, k4, k5, k6, k7, k8⟩ := hSw.2.1.cells; obtain ⟨p0, p1, p2, p3, p4, p5, p6, p7, p8⟩ := hSw.2.2.cells; go_simp; (try with_reducible rfl))
 case rest12 =>
 simp only [Act.put, List.setIfInBounds_toArray, List.set_cons_zero, List.set_cons_succ]
 refine wpAnyH_take (i := 13) (oi := ?oi13) (v := ?v13) ?hi13 (by kernel_rfl) (by kernel_rfl) (by kernel_rfl) ?hQ13 (Or.inl ⟨?hw13, ?hy13⟩) hHeld ?rest13
 case hi13 => simp only [List.getElem?_toArray, List.getElem?_cons_succ, List.getElem?_cons_zero]; rfl
 case hQ13 => exact fun _ _ _ h => h
 case hw13 => rfl
 case hy13 => (intro w9 hSw; obtain ⟨k0, k1, k2, k3, k4, k5, k6, k7, k8⟩ := hSw.2.1.cells; obtain ⟨p0, p1, p2, p3, p4, p5, p6, p7, p8⟩ := hSw.2.2.cells; go_simp; (try with_reducible rfl))
 case rest13 =>
 simp only [Act.put, List.setIfInBounds_toArray, List.set_cons_zero, List.set_cons_succ]
 refine wpAnyH_take (i := 15) (oi := ?oi15) (v := ?v15) ?hi15 (by kernel_rfl) (by kernel_rfl) (by kernel_rfl) ?hQ15 (Or.inl ⟨?hw15, ?hy15⟩) hHeld ?rest15
 case hi15 => simp only [List.getElem?_toArray, List.getElem?_cons_succ, List.getElem?_cons_zero]; rfl
 case hQ15 => exact fun _ _ _ h => h
 case hw15 => rfl
 case hy15 => (intro w9 hSw; obtain ⟨k0, k1, k2, k3, k4, k5, k6, k7, k8⟩ := hSw.2.1.cells; obtain ⟨p0, p1, p2, p3, p4, p5, p6, p7, p8⟩ := hSw.2.2.cells; go_simp; (try with_reducible rfl))
 case rest15 =>
 simp only [Act.put, List.setIfInBounds_toArray, List.set_cons_zero, List.set_cons_succ]
 refine wpAnyH_take (i := 16) (oi := ?oi16) (v := ?v16) ?hi16 (by kernel_rfl) (by kernel_rfl) (by kernel_rfl) ?hQ16 (Or.inl ⟨?hw16, ?hy16⟩) hHeld ?rest16
 case hi16 => simp only [List.getElem?_toArray, List.getElem?_cons_succ, List.getElem?_cons_zero]; rfl
 case hQ16 => exact fun _ _ _ h => h
 case hw16 => rfl
 case hy16 => (intro w9 hSw; obtain ⟨k0, k1, k2, k3, k4, k5, k6, k7, k8⟩ := hSw.2.1.cells; obtain ⟨p0, p1, p2, p3, p4, p5, p6, p7, p8⟩ := hSw.2.2.cells; go_simp; (try with_reducible rfl))
 case rest16 =>
 simp only [Act.put, List.setIfInBounds_toArray, List.set_cons_zero, List.set_cons_succ]
 refine wpAnyH_take (i := 17) (oi := ?oi17) (v := ?v17) ?hi17 (by kernel_rfl) (by kernel_rfl) (by kernel_rfl) ?hQ17 (Or.inl ⟨?hw17, ?hy17⟩) hHeld ?rest17
 case hi17 => simp only [List.getElem?_toArray, List.getElem?_cons_succ, List.getElem?_cons_zero]; rfl
 case hQ17 => exact fun _ _ _ h => h
 case hw17 => rfl
 case hy17 => (intro w9 hSw; obtain ⟨k0, k1, k2, k3, k4, k5, k6, k7, k8⟩ := hSw.2.1.cells; obtain ⟨p0, p1, p2, p3, p4, p5, p6, p7, p8⟩ := hSw.2.2.cells; go_simp; (try with_reducible rfl))
 case rest17 =>
 simp only [Act.put, List.setIfInBounds_toArray, List.set_cons_zero, List.set_cons_succ]
 refine wpAnyH_take (i := 18) (oi := ?oi18) (v := ?v18) ?hi18 (by kernel_rfl) (by kernel_rfl) (by kernel_rfl) ?hQ18 (Or.inl ⟨?hw18, ?hy18⟩) hHeld ?rest18
 case hi18 => simp only [List.getElem?_toArray, List.getElem?_cons_succ, List.getElem?_cons_zero]; rfl
 case hQ18 => exact fun _ _ _ h => h
 case hw18 => rfl
 case hy18 => (intro w9 hSw; obtain ⟨k0, k1, k2, k3, k4, k5, k6, k7, k8⟩ := hSw.2.1.cells; obtain ⟨p0, p1, p2, p3, p4, p5, p6, p7, p8⟩ := hSw.2.2.cells; go_simp; (try with_reducible rfl))
 case rest18 =>
 simp only [Act.put, List.setIfInBounds_toArray, List.set_cons_zero, List.set_cons_succ]
 refine wpAnyH_take (i := 20) (oi := ?oi20) (v := ?v20) ?hi20 (by kernel_rfl) (by kernel_rfl) (by kernel_rfl) ?hQ20 (Or.inl ⟨?hw20, ?hy20⟩) hHeld ?rest20
 case hi20 => simp only [List.getElem?_toArray, List.getElem?_cons_succ, List.getElem?_cons_zero]; rfl
 case hQ20 => exact fun _ _ _ h => h
 case hw20 => rfl
 case hy20 => (intro w9 hSw; obtain ⟨k0, k1, k2, k3, k4, k5, k6, k7, k8⟩ := hSw.2.1.cells; obtain ⟨p0, p1, p2, p3, p4, p5, p6, p7, p8⟩ := hSw.2.2.cells; go_simp; (try with_reducible rfl))
 case rest20 =>
 simp only [Act.put, List.setIfInBounds_toArray, List.set_cons_zero, List.set_cons_succ]
 refine wpAnyH_take (i := 21) (oi := ?oi21) (v := ?v21) ?hi21 (by kernel_rfl) (by kernel_rfl) (by kernel_rfl) ?hQ21 (Or.inl ⟨?hw21, ?hy21⟩) hHeld ?rest21
 case hi21 => simp only [List.getElem?_toArray, List.getElem?_cons_succ, List.getElem?_cons_zero]; rfl
 case hQ21 => exact fun _ _ _ h => h
 case hw21 => rfl
 case hy21 => (intro w9 hSw; obtain ⟨k0, k1, k2, k3, k4, k5, k6, k7, k8⟩ := hSw.2.1.cells; obtain ⟨p0, p1, p2, p3, p4, p5, p6, p7, p8⟩ := hSw.2.2.cells; go_simp; (try with_reducible rfl))
 case rest21 =>
 simp only [Act.put, List.setIfInBounds_toArray, List.set_cons_zero, List.set_cons_succ]
 refine wpAnyH_take (i := 22) (oi := ?oi22) (v := ?v22) ?hi22 (by kernel_rfl) (by kernel_rfl) (by kernel_rfl) ?hQ22 (Or.inl ⟨?hw22, ?hy22⟩) hHeld ?rest22
 case hi22 => simp only [List.getElem?_toArray, List.getElem?_cons_succ, List.getElem?_cons_zero]; rfl
 case hQ22 => exact fun _ _ _ h => h
 case hw22 => rfl
 case hy22 => (intro w9 hSw; obtain ⟨k0, k1, k2, k3, k4, k5, k6, k7, k8⟩ := hSw.2.1.cells; obtain ⟨p0, p1, p2, p3, p4, p5, p6, p7, p8⟩ := hSw.2.2.cells; go_simp; (try with_reducible rfl))
 case rest22 =>
 simp only [Act.put, List.setIfInBounds_toArray, List.set_cons_zero, List.set_cons_succ]
 refine wpAnyH_take (i := 23) (oi := ?oi23) (v := ?v23) ?hi23 (by kernel_rfl) (by kernel_rfl) (by kernel_rfl) ?hQ23 (Or.inl ⟨?hw23, ?hy23⟩) hHeld ?rest23
 case hi23 => simp only [List.getElem?_toArray, List.getElem?_cons_succ, List.getElem?_cons_zero]; rfl
 case hQ23 => exact fun _ _ _ h => h
 case hw23 => rfl
 case hy23 => (intro w9 hSw; obtain ⟨k0, k1, k2, k3, k4, k5, k6, k7, k8⟩ := hSw.2.1.cells; obtain ⟨p0, p1, p2, p3, p4, p5, p6, p7, p8⟩ := hSw.2.2.cells; go_simp; (try with_reducible rfl))
 case rest23 =>
 simp only [Act.put, List.setIfInBounds_toArray, List.set_cons_zero, List.set_cons_succ]
 refine wpAnyH_take (i := 25) (oi := ?oi25) (v := ?v25) ?hi25 (by kernel_rfl) (by kernel_rfl) (by kernel_rfl) ?hQ25 (Or.inl ⟨?hw25, ?hy25⟩) hHeld ?rest25
 case hi25 => simp only [List.getElem?_toArray, List.getElem?_cons_succ, List.getElem?_cons_zero]; rfl
 case hQ25 => exact fun _ _ _ h => h
 case hw25 => rfl
 case hy25 => (intro w9 hSw; obtain ⟨k0, k1, k2, k3, k4, k5, k6, k7, k8⟩ := hSw.2.1.cells; obtain ⟨p0, p1, p2, p3, p4, p5, p6, p7, p8⟩ := hSw.2.2.cells; go_simp; (try with_reducible rfl))
 case rest25 =>
 simp only [Act.put, List.setIfInBounds_toArray, List.set_cons_zero, List.set_cons_succ]
 refine wpAnyH_take (i := 26) (oi := ?oi26) (v := ?v26) ?hi26 (by kernel_rfl) (by kernel_rfl) (by kernel_rfl) ?hQ26 (Or.inl ⟨?hw26, ?hy26⟩) hHeld ?rest26
 case hi26 => simp only [List.getElem?_toArray, List.getElem?_cons_succ, List.getElem?_cons_zero]; rfl
 case hQ26 => exact fun _ _ _ h => h
 case hw26 => rfl
 case hy26 => (intro w9 hSw; obtain ⟨k0, k1, k2, k3, k4, k5, k6, k7, k8⟩ := hSw.2.1.cells; obtain ⟨p0, p1, p2, p3, p4, p5, p6, p7, p8⟩ := hSw.2.2.cells; go_simp; (try with_reducible rfl))
 case rest26 =>
 simp only [Act.put, List.setIfInBounds_toArray, List.set_cons_zero, List.set_cons_succ]
 refine wpAnyH_take (i := 27) (oi := ?oi27) (v := ?v27) ?hi27 (by kernel_rfl) (by kernel_rfl) (by kernel_rfl) ?hQ27 (Or.inl ⟨?hw27, ?hy27⟩) hHeld ?rest27
 case hi27 => simp only [List.getElem?_toArray, List.getElem?_cons_succ, List.getElem?_cons_zero]; rfl
 case hQ27 => exact fun _ _ _ h => h
 case hw27 => rfl
 case hy27 => (intro w9 hSw; obtain ⟨k0, k1, k2, k3, k4, k5, k6, k7, k8⟩ := hSw.2.1.cells; obtain ⟨p0, p1, p2, p3, p4, p5, p6, p7, p8⟩ := hSw.2.2.cells; go_simp; (try with_reducible rfl))
 case rest27 =>
 simp only [Act.put, List.setIfInBounds_toArray, List.set_cons_zero, List.set_cons_succ]
 refine wpAnyH_take (i := 28) (oi := ?oi28) (v := ?v28) ?hi28 (by kernel_rfl) (by kernel_rfl) (by kernel_rfl) ?hQ28 (Or.inl ⟨?hw28, ?hy28⟩) hHeld ?rest28
 case hi28 => simp only [List.getElem?_toArray, List.getElem?_cons_succ, List.getElem?_cons_zero]; rfl
 case hQ28 => exact fun _ _ _ h => h
 case hw28 => rfl
 case hy28 => (intro w9 hSw; obtain ⟨k0, k1, k2, k3, k4, k5, k6, k7, k8⟩ := hSw.2.1.cells; obtain ⟨p0, p1, p2, p3, p4, p5, p6, p7, p8⟩ := hSw.2.2.cells; go_simp; (try with_reducible rfl))
 case rest28 =>
 simp only [Act.put, List.setIfInBounds_toArray, List.set_cons_zero, List.set_cons_succ]
 refine wpAnyH_calls_at 6 3 [4, 9, 14, 19, 24, 29] [.int .i64 X0, .int .i64 X1, .int .i64 X2, .int .i64 X3, .int .i64 X4, .int .i64 X5] (fun xs => ⟨#[.agg #[v1, .int .i64 r1, .bool f1, .int .i64 M1, .int .i64 S1, .int .i64 m1, .int .i64 s1, .bool t1, .int .i64 T1], .agg #[v2, .int .i64 r2, .bool f2, .int .i64 M2, .int .i64 S2, .int .i64 m2, .int .i64 s2, .bool t2, .int .i64 T2], .pointer (some ⟨w.heap.size, 0, none⟩), .pointer (some ⟨w.heap.size + 1, 0, none⟩), .int .i64 0, .pointer (some ⟨w.heap.size, 0, none⟩), v1, .pointer (some ⟨w.heap.size + 1, 0, none⟩), v2, xs.getD 0 undef, .pointer (some ⟨w.heap.size, 7, none⟩), .bool t1, .pointer (some ⟨w.heap.size + 1, 7, none⟩), .bool t2, xs.getD 1 undef, .pointer (some ⟨w.heap.size, 8, none⟩), .int .i64 T1, .pointer (some ⟨w.heap.size + 1, 8, none⟩), .int .i64 T2, xs.getD 2 undef, .pointer (some ⟨w.heap.size, 1, none⟩), .int .i64 r1, .pointer (some ⟨w.heap.size + 1, 1, none⟩), .int .i64 r2, xs.getD 3 undef, .pointer (some ⟨w.heap.size, 2, none⟩), .bool f1, .pointer (some ⟨w.heap.size + 1, 2, none⟩), .bool f2, xs.getD 4 undef, .pointer (some ⟨w.heap.size, 3, none⟩), .agg #[.int .i64 M1, .int .i64 S1], .pointer (some ⟨w.heap.size + 1, 3, none⟩), .agg #[.int .i64 M2, .int .i64 S2], xs.getD 5 undef, undef, undef], []⟩) (fun bs => #[true, true, true, true, bs.getD 0 true, true, true, true, true, bs.getD 1 true, true, true, true, true, bs.getD 2 true, true, true, true, true, bs.getD 3 true, true, true, true, true, bs.getD 4 true, true, true, true, true, bs.getD 5 true, false, false, false]) (Pts w w.heap.size (w.heap.size + 1) v1 v2 r1 f1 M1 S1 m1 s1 t1 T1 r2 f2 M2 S2 m2 s2 t2 T2) ?hl rfl rfl (fun _ h => h) ?hready ?hset ?hcall ?hdone hHeld
 case hl => kernel_rfl
 case hready =>
  intro bs hb
  obtain ⟨b0, b1, b2, b3, b4, b5, rfl⟩ := six bs hb
  cases b0 <;> cases b1 <;> cases b2 <;> cases b3 <;> cases b4 <;> cases b5 <;> kernel_rfl
 case hset =>
  intro bs k hb hk
  obtain ⟨b0, b1, b2, b3, b4, b5, rfl⟩ := six bs hb
  rcases (show k = 0 ∨ k = 1 ∨ k = 2 ∨ k = 3 ∨ k = 4 ∨ k = 5 from by omega) with rfl | rfl | rfl | rfl | rfl | rfl <;> rfl
 case hcall =>
  intro x k hx hk K w9 hJ hK
  have hJe := hJ.1
  obtain ⟨x0, x1, x2, x3, x4, x5, rfl⟩ := six x hx
  rcases (show k = 0 ∨ k = 1 ∨ k = 2 ∨ k = 3 ∨ k = 4 ∨ k = 5 from by omega) with rfl | rfl | rfl | rfl | rfl | rfl
  ·refine wpOp_step (i := 4) (o := ?o0) ?hi0 (fun K' hK' => ?_)
   case hi0 => simp only [List.getElem?_toArray, List.getElem?_cons_succ, List.getElem?_cons_zero]; rfl
   rw [if_pos (by rfl)]
   go_simp
   go_at_call 84
   (with_reducible refine (K1 _ hJe).mono ?_)
   rintro e wz ⟨rfl, xz⟩
   exact hK' _ _ (hK wz (hJ.ext xz))
  ·refine wpOp_step (i := 9) (o := ?o1) ?hi1 (fun K' hK' => ?_)
   case hi1 => simp only [List.getElem?_toArray, List.getElem?_cons_succ, List.getElem?_cons_zero]; rfl
   rw [if_pos (by rfl)]
   go_simp
   go_at_call 85
   (with_reducible refine (K2 _).mono ?_)
   rintro e wz ⟨rfl, xz⟩
   exact hK' _ _ (hK wz (hJ.ext xz))
  ·refine wpOp_step (i := 14) (o := ?o2) ?hi2 (fun K' hK' => ?_)
   case hi2 => simp only [List.getElem?_toArray, List.getElem?_cons_succ, List.getElem?_cons_zero]; rfl
   rw [if_pos (by rfl)]
   go_simp
   go_at_call 86
   (with_reducible refine (K3 _).mono ?_)
   rintro e wz ⟨rfl, xz⟩
   exact hK' _ _ (hK wz (hJ.ext xz))
  ·refine wpOp_step (i := 19) (o := ?o3) ?hi3 (fun K' hK' => ?_)
   case hi3 => simp only [List.getElem?_toArray, List.getElem?_cons_succ, List.getElem?_cons_zero]; rfl
   rw [if_pos (by rfl)]
   go_simp
   go_at_call 87
   (with_reducible refine (K4 _).mono ?_)
   rintro e wz ⟨rfl, xz⟩
   exact hK' _ _ (hK wz (hJ.ext xz))
  ·refine wpOp_step (i := 24) (o := ?o4) ?hi4 (fun K' hK' => ?_)
   case hi4 => simp only [List.getElem?_toArray, List.getElem?_cons_succ, List.getElem?_cons_zero]; rfl
   rw [if_pos (by rfl)]
   go_simp
   go_at_call 85
   (with_reducible refine (K5 _).mono ?_)
   rintro e wz ⟨rfl, xz⟩
   exact hK' _ _ (hK wz (hJ.ext xz))
  ·refine wpOp_step (i := 29) (o := ?o5) ?hi5 (fun K' hK' => ?_)
   case hi5 => simp only [List.getElem?_toArray, List.getElem?_cons_succ, List.getElem?_cons_zero]; rfl
   rw [if_pos (by rfl)]
   go_simp
   go_at_call 88
   (with_reducible refine (K6 _).mono ?_)
   rintro e wz ⟨rfl, xz⟩
   exact hK' _ _ (hK wz (hJ.ext xz))
 case hdone =>
  intro bs x w9 hb hx hJ hv
  obtain ⟨b0, b1, b2, b3, b4, b5, rfl⟩ := six bs hb
  obtain ⟨x0, x1, x2, x3, x4, x5, rfl⟩ := six x hx
  obtain ⟨e0, y0⟩ := hv 0 (by omega)
  obtain ⟨e1, y1⟩ := hv 1 (by omega)
  obtain ⟨e2, y2⟩ := hv 2 (by omega)
  obtain ⟨e3, y3⟩ := hv 3 (by omega)
  obtain ⟨e4, y4⟩ := hv 4 (by omega)
  obtain ⟨e5, y5⟩ := hv 5 (by omega)
  replace e0 : b0 = true := e0
  replace e1 : b1 = true := e1
  replace e2 : b2 = true := e2
  replace e3 : b3 = true := e3
  replace e4 : b4 = true := e4
  replace e5 : b5 = true := e5
  replace y0 : x0 = .int .i64 X0 := y0
  replace y1 : x1 = .int .i64 X1 := y1
  replace y2 : x2 = .int .i64 X2 := y2
  replace y3 : x3 = .int .i64 X3 := y3
  replace y4 : x4 = .int .i64 X4 := y4
  replace y5 : x5 = .int .i64 X5 := y5
  subst e0 e1 e2 e3 e4 e5 y0 y1 y2 y3 y4 y5
  clear hv hb hx K1 K2 K3 K4 K5 K6 hHeld
  refine wpAnyH_ready (rs := [30]) (by kernel_rfl) (by simp) (AllReadyH.cons (o := ?oa) ?ia (fun K hK => ?_) AllReadyH.nil)
  case ia => simp only [List.getElem?_toArray, List.getElem?_cons_succ, List.getElem?_cons_zero]; rfl
  rw [if_pos (by rfl)]
  go_simp
  refine hK.out _ _ (hJ.ext ((Ext.refl _).alloc _)) (fun hHeld => ?_)
  clear hK K
  simp only [List.setIfInBounds_toArray, List.set_cons_zero, List.set_cons_succ]
  refine wpAnyH_ready (rs := [31]) (by kernel_rfl) (by simp) (AllReadyH.cons (o := ?ob) ?ib (fun K hK => ?_) AllReadyH.nil)
  case ib => simp only [List.getElem?_toArray, List.getElem?_cons_succ, List.getElem?_cons_zero]; rfl
  rw [if_pos (by rfl)]
  go_simp
  go_at_call 83
  (with_reducible refine (O _ _ ?h).mono ?_)
  case h => exact IntsAt.mk [X0, X1, X2, X3, X4, X5] (heap_last _ _)
  rintro e wz ⟨rfl, xz⟩
  refine hK.out _ _ (Pts.ext hHeld xz) (fun hHeld2 => ?_)
  clear hK K
  simp only [List.setIfInBounds_toArray, List.set_cons_zero, List.set_cons_succ]
  refine wpAnyH_ready (rs := [32]) (by kernel_rfl) (by simp) (AllReadyH.cons (o := ?oc) ?ic (fun K hK => ?_) AllReadyH.nil)
  case ic => simp only [List.getElem?_toArray, List.getElem?_cons_succ, List.getElem?_cons_zero]; rfl
  rw [if_pos (by rfl)]
  go_simp
  refine hK.out _ _ hHeld2 (fun hHeld3 => ?_)
  clear hK K
  refine wpAnyH_done (by kernel_rfl) ?_ _
  have hfin := hHeld3.1
  go_wp2_with fail
  go_ret
  exact ⟨rfl, hfin⟩
set_option maxHeartbeats 4000000 in
set_option maxRecDepth 100000 in
theorem ptSame_any (a1 a2 : Option Addr) (c1 c2 : Nat) (l1 l2 : List (ByteArray × ByteArray)) (r1 : Int) (f1 : Bool) (M1 S1 m1 s1 : Int) (t1 : Bool) (T1 : Int) (r2 : Int) (f2 : Bool) (M2 S2 m2 s2 : Int) (t2 : Bool) (T2 : Int) (w : World)
  (n1 : (l1.length : Int) ≤ 9223372036854775807) (n2 : (l2.length : Int) ≤ 9223372036854775807) (h1 : LabA a1 l1 w) (h2 : LabA a2 l2 w) (i1 : I64 M1) (j1 : I64 S1) (i2 : I64 M2) (j2 : I64 S2) :
  Calls Tryz.prog 74 #[ptV (.slice a1 l1.length c1) r1 f1 M1 S1 m1 s1 t1 T1, ptV (.slice a2 l2.length c2) r2 f2 M2 S2 m2 s2 t2 T2] w fun e w' => e = .returned (.bool (cmpP l1 r1 f1 M1 S1 t1 T1 l2 r2 f2 M2 S2 t2 T2 == 0 && (m1 == m2 && s1 == s2))) ∧ Ext w w' := by
 have C := fun W (x : Ext w W) => ptCompare_any a1 a2 c1 c2 l1 l2 r1 f1 M1 S1 m1 s1 t1 T1 r2 f2 M2 S2 m2 s2 t2 T2 W n1 n2 (h1.ext x) (h2.ext x) i1 j1 i2 j2
 generalize cmpP l1 r1 f1 M1 S1 t1 T1 l2 r2 f2 M2 S2 t2 T2 = R at *
 obtain ⟨v1, hv1⟩ : ∃ v, Value.slice a1 l1.length c1 = v := ⟨_, rfl⟩
 obtain ⟨v2, hv2⟩ : ∃ v, Value.slice a2 l2.length c2 = v := ⟨_, rfl⟩
 rw [hv1, hv2] at C
 rw [hv1, hv2]
 unfold ptV at *
 clear hv1 hv2 h1 h2 n1 n2 i1 j1 i2 j2
 have hx : Ext w ((w.alloc (.cells #[v1, .int .i64 r1, .bool f1, .int .i64 M1, .int .i64 S1, .int .i64 m1, .int .i64 s1, .bool t1, .int .i64 T1] 40)).alloc (.cells #[v2, .int .i64 r2, .bool f2, .int .i64 M2, .int .i64 S2, .int .i64 m2, .int .i64 s2, .bool t2, .int .i64 T2] 40)) := ((Ext.refl _).alloc _).alloc _
 have g1 : PtIn w.heap.size v1 r1 f1 M1 S1 m1 s1 t1 T1 ((w.alloc (.cells #[v1, .int .i64 r1, .bool f1, .int .i64 M1, .int .i64 S1, .int .i64 m1, .int .i64 s1, .bool t1, .int .i64 T1] 40)).alloc (.cells #[v2, .int .i64 r2, .bool f2, .int .i64 M2, .int .i64 S2, .int .i64 m2, .int .i64 s2, .bool t2, .int .i64 T2] 40)) := heap_at2a _ _ _
 have g2 : PtIn (w.heap.size + 1) v2 r2 f2 M2 S2 m2 s2 t2 T2 ((w.alloc (.cells #[v1, .int .i64 r1, .bool f1, .int .i64 M1, .int .i64 S1, .int .i64 m1, .int .i64 s1, .bool t1, .int .i64 T1] 40)).alloc (.cells #[v2, .int .i64 r2, .bool f2, .int .i64 M2, .int .i64 S2, .int .i64 m2, .int .i64 s2, .bool t2, .int .i64 T2] 40)) := heap_at2b _ _ _
 have C2 := C _ hx
 obtain ⟨RB, hRB⟩ : ∃ x, (R == 0 && (m1 == m2 && s1 == s2)) = x := ⟨_, rfl⟩
 rw [hRB]
 by_cases hR : R = 0
 ·subst hR
  by_cases hm : m1 = m2
  ·subst hm
   by_cases hs : s1 = s2
   ·subst hs
    have HV : Hid (RB = true) := Lib.hid (by rw [← hRB]; simp [])
    clear hRB
    obtain ⟨k0, k1, k2, k3, k4, k5, k6, k7, k8⟩ := g1.cells
    obtain ⟨p0, p1, p2, p3, p4, p5, p6, p7, p8⟩ := g2.cells
    go_enter Tryz.func74, Tryz.ntmps74
    go_wp2_with fail
    (with_reducible refine C2.mono ?_)
    rintro e w9 ⟨rfl, x9⟩
    clear k0 k1 k2 k3 k4 k5 k6 k7 k8 p0 p1 p2 p3 p4 p5 p6 p7 p8
    obtain ⟨k0, k1, k2, k3, k4, k5, k6, k7, k8⟩ := (g1.ext x9).cells
    obtain ⟨p0, p1, p2, p3, p4, p5, p6, p7, p8⟩ := (g2.ext x9).cells
    go_wp2_with fail
    go_ret
    exact ⟨retB HV.out.symm, hx.trans x9⟩
   ·have HV : Hid (RB = false) := Lib.hid (by rw [← hRB]; simp [hs])
    clear hRB
    obtain ⟨k0, k1, k2, k3, k4, k5, k6, k7, k8⟩ := g1.cells
    obtain ⟨p0, p1, p2, p3, p4, p5, p6, p7, p8⟩ := g2.cells
    go_enter Tryz.func74, Tryz.ntmps74
    go_wp2_with fail
    (with_reducible refine C2.mono ?_)
    rintro e w9 ⟨rfl, x9⟩
    clear k0 k1 k2 k3 k4 k5 k6 k7 k8 p0 p1 p2 p3 p4 p5 p6 p7 p8
    obtain ⟨k0, k1, k2, k3, k4, k5, k6, k7, k8⟩ := (g1.ext x9).cells
    obtain ⟨p0, p1, p2, p3, p4, p5, p6, p7, p8⟩ := (g2.ext x9).cells
    go_wp2_with fail
    go_ret
    exact ⟨retB HV.out.symm, hx.trans x9⟩
  ·have HV : Hid (RB = false) := Lib.hid (by rw [← hRB]; simp [hm])
   clear hRB
   obtain ⟨k0, k1, k2, k3, k4, k5, k6, k7, k8⟩ := g1.cells
   obtain ⟨p0, p1, p2, p3, p4, p5, p6, p7, p8⟩ := g2.cells
   go_enter Tryz.func74, Tryz.ntmps74
   go_wp2_with fail
   (with_reducible refine C2.mono ?_)
   rintro e w9 ⟨rfl, x9⟩
   clear k0 k1 k2 k3 k4 k5 k6 k7 k8 p0 p1 p2 p3 p4 p5 p6 p7 p8
   obtain ⟨k0, k1, k2, k3, k4, k5, k6, k7, k8⟩ := (g1.ext x9).cells
   obtain ⟨p0, p1, p2, p3, p4, p5, p6, p7, p8⟩ := (g2.ext x9).cells
   go_wp2_with fail
   go_ret
   exact ⟨retB HV.out.symm, hx.trans x9⟩
 ·have HV : Hid (RB = false) := Lib.hid (by rw [← hRB]; simp [hR])
  clear hRB
  obtain ⟨k0, k1, k2, k3, k4, k5, k6, k7, k8⟩ := g1.cells
  obtain ⟨p0, p1, p2, p3, p4, p5, p6, p7, p8⟩ := g2.cells
  go_enter Tryz.func74, Tryz.ntmps74
  go_wp2_with fail
  (with_reducible refine C2.mono ?_)
  rintro e w9 ⟨rfl, x9⟩
  clear k0 k1 k2 k3 k4 k5 k6 k7 k8 p0 p1 p2 p3 p4 p5 p6 p7 p8
  obtain ⟨k0, k1, k2, k3, k4, k5, k6, k7, k8⟩ := (g1.ext x9).cells
  obtain ⟨p0, p1, p2, p3, p4, p5, p6, p7, p8⟩ := (g2.ext x9).cells
  go_wp2_with fail
  go_ret
  exact ⟨retB HV.out.symm, hx.trans x9⟩
end Go.Proofs.YtjjnmefihdjglaaGreat
