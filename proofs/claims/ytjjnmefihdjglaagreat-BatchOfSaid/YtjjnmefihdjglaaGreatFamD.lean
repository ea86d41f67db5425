import Derived.Test.YtjjnmefihdjglaaGreatFamC
import Derived.Test.YtjjnmefihdjglaaGreatGF
namespace Go.Proofs.YtjjnmefihdjglaaGreat
open Go.RowKit
def FamIn (b : Nat) (nm : ByteArray) (k : Int) (un he : ByteArray) (pv : Value) (w : World) : Prop := w.heap[b]? = some (.cells #[.string nm, .int .i64 k, .string un, .string he, pv] 35 (0, 0))
theorem FamIn.ext {b : Nat} {nm : ByteArray} {k : Int} {un he : ByteArray} {pv : Value} {w w' : World} (h : FamIn b nm k un he pv w) (x : Ext w w') : FamIn b nm k un he pv w' := (x.heap (Array.getElem?_eq_some_iff.1 h).1).trans h
theorem FamIn.cells {b : Nat} {nm : ByteArray} {k : Int} {un he : ByteArray} {pv : Value} {w : World} (h : FamIn b nm k un he pv w) :
  w.cell? ⟨b, 0, none⟩ = some (.string nm) ∧ w.cell? ⟨b, 1, none⟩ = some (.int .i64 k) ∧ w.cell? ⟨b, 2, none⟩ = some (.string un) ∧ w.cell? ⟨b, 3, none⟩ = some (.string he) ∧ w.cell? ⟨b, 4, none⟩ = some pv := by
 refine ⟨?_, ?_, ?_, ?_, ?_⟩ <;> (rw [Lib.cell_of_heap h]; rfl)
def PtD.good (k : Int) (p : PtD) : Bool := goodPt k p.l p.r p.f p.M p.S p.m p.s p.t p.T
set_option maxHeartbeats 4000000 in
set_option maxRecDepth 100000 in
theorem wrong_any (b : Nat) (nm : ByteArray) (k : Int) (un he : ByteArray) (pv : Value) (p : PtD) (w : World) (h : FamIn b nm k un he pv w) (hp : p.Ok w) :
  Calls Tryz.prog 78 #[p.v, .pointer (some ⟨b, 0, none⟩)] w fun e w' => e = .returned (.bool (!(p.good k))) ∧ Ext w w' := by
 obtain ⟨c0, c1, c2, c3, c4⟩ := h.cells
 have hb : b < w.heap.size := (Array.getElem?_eq_some_iff.1 h).1
 have G := fun W (x : Ext w W) => ptGood_any k p.a p.c p.l p.r p.f p.M p.S p.m p.s p.t p.T W hp.1 (hp.2.1.ext x) hp.2.2.1 hp.2.2.2.1.1 hp.2.2.2.1.2 hp.2.2.2.2.1 hp.2.2.2.2.2
 unfold PtD.good PtD.v
 generalize goodPt k p.l p.r p.f p.M p.S p.m p.s p.t p.T = g at *
 unfold ptV at *
 have hx : Ext w (w.alloc (.cells #[.slice p.a p.l.length p.c, .int .i64 p.r, .bool p.f, .int .i64 p.M, .int .i64 p.S, .int .i64 p.m, .int .i64 p.s, .bool p.t, .int .i64 p.T] 40)) := (Ext.refl _).alloc _
 clear h hp
 go_enter Tryz.func78, Tryz.ntmps78
 go_wp2_with fail
 (with_reducible refine (G _ hx).mono ?_)
 rintro e w1 ⟨rfl, x1⟩
 go_wp2_with fail
 go_ret
 exact ⟨rfl, hx.trans x1⟩
def badAt (k : Int) : Nat → List PtD → Int
 | _, [] => -1
 | i, p :: l => if p.good k then badAt k (i + 1) l else i
theorem badAt_neg (k : Int) : ∀ (l : List PtD) (i : Nat), decide (badAt k i l ≥ 0) = !(l.all (fun p => p.good k))
 | [], i => by simp [badAt]
 | p :: l, i => by
   unfold badAt
   cases h : p.good k
   ·simp [h]
   ·simp only [if_true, List.all_cons, h, Bool.true_and]
    exact badAt_neg k l (i + 1)
set_option maxHeartbeats 4000000 in
set_option maxRecDepth 100000 in
theorem indexBad_any (b : Nat) (nm : ByteArray) (k : Int) (un he : ByteArray) (pv : Value) (a : Option Addr) (c : Nat) (l : List PtD) (w : World) (h : FamIn b nm k un he pv w) (hl : (l.length : Int) ≤ 9223372036854775807) (hA : PtsA a l w) :
  Calls Tryz.prog 89 #[.slice a l.length c, .func (.func 78) #[] #[.pointer (some ⟨b, 0, none⟩)]] w fun e w' => e = .returned (.int .i64 (badAt k 0 l)) ∧ Ext w w' := by
 obtain ⟨R, hR⟩ : ∃ R, badAt k 0 l = R := ⟨_, rfl⟩
 rw [hR]
 go_enter Tryz.func89, Tryz.ntmps89
 go_wp2_with fail
 go_loopw [8] (fun i wr => ∃ j : Nat, i = .int .i64 j ∧ j ≤ l.length ∧ Hid (badAt k j (l.drop j) = R) ∧ Ext w wr) (fun i _ => l.length - (intOf i).toNat)
 case atStart => exact ⟨0, rfl, Nat.zero_le _, Lib.hid hR, Ext.refl _⟩
 case round =>
  obtain ⟨j, rfl, hk, hg, xr⟩ := hrel
  clear hR
  by_cases hlt : j < l.length
  ·have hd := hg.out
   rw [List.drop_eq_getElem_cons hlt] at hd
   unfold badAt at hd
   obtain ⟨b1, o1, rfl, hb1, hL⟩ := hA.1 (by omega)
   have ok := (hA.2 _ (List.getElem_mem hlt)).ext xr
   obtain ⟨p0, p1, p2, p3, p4, p5, p6, p7, p8⟩ := hL j hlt
   generalize l[j] = p at *
   have C := wrong_any b nm k un he pv p wr (h.ext xr) ok
   obtain ⟨g, hg2⟩ : ∃ g, p.good k = g := ⟨_, rfl⟩
   rw [hg2] at C hd
   unfold PtD.v ptV at C
   replace p0 := (Ext.cell xr hb1).trans p0
   replace p1 := (Ext.cell xr hb1).trans p1
   replace p2 := (Ext.cell xr hb1).trans p2
   replace p3 := (Ext.cell xr hb1).trans p3
   replace p4 := (Ext.cell xr hb1).trans p4
   replace p5 := (Ext.cell xr hb1).trans p5
   replace p6 := (Ext.cell xr hb1).trans p6
   replace p7 := (Ext.cell xr hb1).trans p7
   replace p8 := (Ext.cell xr hb1).trans p8
   clear hL ok hA hg hg2
   cases g
   ·rw [if_neg (by decide)] at hd
    rw [Bool.not_false] at C
    replace hd := Lib.hid hd
    go_wp2_with fail
    (with_reducible refine C.mono ?_)
    rintro e w1 ⟨rfl, x1⟩
    clear p0 p1 p2 p3 p4 p5 p6 p7 p8
    go_wp2_with fail
    go_ret
    exact ⟨retI hd.out, xr.trans x1⟩
   ·rw [if_pos rfl] at hd
    rw [Bool.not_true] at C
    replace hd := Lib.hid hd
    go_wp2_with fail
    (with_reducible refine C.mono ?_)
    rintro e w1 ⟨rfl, x1⟩
    clear p0 p1 p2 p3 p4 p5 p6 p7 p8
    go_wp2_with fail
    go_roundw
    case rel => exact ⟨j + 1, rfl, hlt, hd, xr.trans x1⟩
    case measure => simp only [intOf]; omega
  ·have hd := hg.out
   rw [show l.drop j = [] from List.drop_eq_nil_of_le (by omega)] at hd
   replace hd : Hid ((-1 : Int) = R) := Lib.hid hd
   have hk3 : l.length ≤ j := by omega
   clear hk hg hA hlt
   go_wp2_with fail
   go_ret
   exact ⟨retI hd.out, xr⟩
theorem anyBad_any (b : Nat) (nm : ByteArray) (k : Int) (un he : ByteArray) (pv : Value) (a : Option Addr) (c : Nat) (l : List PtD) (w : World) (h : FamIn b nm k un he pv w) (hl : (l.length : Int) ≤ 9223372036854775807) (hA : PtsA a l w) :
  Calls Tryz.prog 57 #[.slice a l.length c, .func (.func 78) #[] #[.pointer (some ⟨b, 0, none⟩)]] w fun e w' => e = .returned (.bool (!(l.all (fun p => p.good k)))) ∧ Ext w w' := by
 have C := fun W (x : Ext w W) => indexBad_any b nm k un he pv a c l W (h.ext x) hl (hA.ext x)
 rw [← badAt_neg k l 0]
 generalize badAt k 0 l = i at *
 clear h hA
 go_enter Tryz.func57, Tryz.ntmps57
 go_wp2_with fail
 (with_reducible refine (C _ (Ext.refl _)).mono ?_)
 rintro e w1 ⟨rfl, x1⟩
 go_wp2_with fail
 go_ret
 exact ⟨rfl, x1⟩
def goodFam (nm : ByteArray) (k : Int) (un he : ByteArray) (l : List PtD) : Bool :=
 (nameB nm && (!(decide (k < 0 ∨ 4 < k)) && (valueB un && valueB he))) && (l.all (fun p => p.good k) && risesK (l.map PtD.k))
set_option maxHeartbeats 8000000 in
set_option maxRecDepth 100000 in
theorem famGood_any (nm : ByteArray) (k : Int) (un he : ByteArray) (a : Option Addr) (c : Nat) (l : List PtD) (w : World) (hl : (l.length : Int) ≤ 9223372036854775807) (hA : PtsA a l w) (hn : nm.size ≤ 9223372036854775807) (hu : un.size ≤ 9223372036854775807) (hh : he.size ≤ 9223372036854775807) :
  Calls Tryz.prog 46 #[.agg #[.string nm, .int .i64 k, .string un, .string he, .slice a l.length c]] w fun e w' => e = .returned (.bool (goodFam nm k un he l)) ∧ Ext w w' := by
 have N := fun W => Name_any nm W hn
 have U := fun W => Value_any un W hu
 have H := fun W => Value_any he W hh
 have TY := fun W => Typed_any k W
 have we := wordEmpty k
 obtain ⟨R, hR⟩ : ∃ R, goodFam nm k un he l = R := ⟨_, rfl⟩
 rw [hR]
 unfold goodFam at hR
 generalize decide (k < 0 ∨ 4 < k) = bk at *
 generalize nameB nm = b1 at *
 generalize valueB un = b2 at *
 generalize valueB he = b3 at *
 generalize wordOf k = wk at *
 have h1 : FamIn w.heap.size nm k un he (.slice a l.length c) (w.alloc (.cells #[.string nm, .int .i64 k, .string un, .string he, .slice a l.length c] 35)) := heap_last _ _
 have hx : Ext w (w.alloc (.cells #[.string nm, .int .i64 k, .string un, .string he, .slice a l.length c] 35)) := (Ext.refl _).alloc _
 go_enter Tryz.func46, Tryz.ntmps46
 have hmf : ∀ (fn : Fn) (first cap : Array Value) (w : World), (Instr.makeFunc fn first cap).run Tryz.prog w = .ok (.func fn first cap) w := fun _ _ _ _ => rfl
 obtain ⟨c0, c1, c2, c3, c4⟩ := h1.cells
 go_wp2_with fail
 (with_reducible refine (N _).mono ?_)
 rintro e wz ⟨rfl, x1⟩
 replace h1 := h1.ext x1
 replace hx := hx.trans x1
 clear x1 c0 c1 c2 c3 c4
 obtain ⟨c0, c1, c2, c3, c4⟩ := h1.cells
 cases b1
 ·have HV : false = R := by rw [← hR]; simp
  replace HV := Lib.hid HV
  clear hR
  go_wp2_with fail
  go_ret
  exact ⟨retB HV.out, hx⟩
 ·go_wp2_with fail
  (with_reducible refine (TY _).mono ?_)
  rintro e wz ⟨rfl, x1⟩
  replace h1 := h1.ext x1
  replace hx := hx.trans x1
  clear x1 c0 c1 c2 c3 c4
  obtain ⟨c0, c1, c2, c3, c4⟩ := h1.cells
  cases bk
  ·go_wp2_with fail
   (with_reducible refine (U _).mono ?_)
   rintro e wz ⟨rfl, x1⟩
   replace h1 := h1.ext x1
   replace hx := hx.trans x1
   clear x1 c0 c1 c2 c3 c4
   obtain ⟨c0, c1, c2, c3, c4⟩ := h1.cells
   cases b2
   ·have HV : false = R := by rw [← hR]; simp
    replace HV := Lib.hid HV
    clear hR
    go_wp2_with fail
    go_ret
    exact ⟨retB HV.out, hx⟩
   ·go_wp2_with fail
    (with_reducible refine (H _).mono ?_)
    rintro e wz ⟨rfl, x1⟩
    replace h1 := h1.ext x1
    replace hx := hx.trans x1
    clear x1 c0 c1 c2 c3 c4
    obtain ⟨c0, c1, c2, c3, c4⟩ := h1.cells
    cases b3
    ·have HV : false = R := by rw [← hR]; simp
     replace HV := Lib.hid HV
     clear hR
     go_wp2_with fail
     go_ret
     exact ⟨retB HV.out, hx⟩
    ·have CB := fun W (h : FamIn w.heap.size nm k un he (.slice a l.length c) W) (x : Ext w W) => anyBad_any w.heap.size nm k un he (.slice a l.length c) a c l W h hl (hA.ext x)
     generalize l.all (fun p => p.good k) = b4 at *
     go_wp2_with fail
     (with_reducible refine (CB _ h1 hx).mono ?_)
     rintro e wz ⟨rfl, x1⟩
     replace h1 := h1.ext x1
     replace hx := hx.trans x1
     clear x1 c0 c1 c2 c3 c4
     obtain ⟨c0, c1, c2, c3, c4⟩ := h1.cells
     cases b4
     ·have HV : false = R := by rw [← hR]; simp
      replace HV := Lib.hid HV
      clear hR
      go_wp2_with fail
      go_ret
      exact ⟨retB HV.out, hx⟩
     ·have RI := fun W (x : Ext w W) => rises_any a c l W hl (hA.ext x)
      generalize risesK (l.map PtD.k) = b5 at *
      go_wp2_with fail
      (with_reducible refine (RI _ hx).mono ?_)
      rintro e wz ⟨rfl, x1⟩
      replace h1 := h1.ext x1
      replace hx := hx.trans x1
      clear x1 c0 c1 c2 c3 c4
      obtain ⟨c0, c1, c2, c3, c4⟩ := h1.cells
      have HV : b5 = R := by rw [← hR]; simp
      replace HV := Lib.hid HV
      clear hR
      go_wp2_with fail
      go_ret
      exact ⟨retB HV.out, hx⟩
  ·have HV : false = R := by rw [← hR]; simp
   replace HV := Lib.hid HV
   clear hR
   go_wp2_with fail
   go_ret
   exact ⟨retB HV.out, hx⟩
end Go.Proofs.YtjjnmefihdjglaaGreat
