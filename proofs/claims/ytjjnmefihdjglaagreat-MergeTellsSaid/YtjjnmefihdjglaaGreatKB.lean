import Derived.OrdersHeld
import Derived.Test.YtjjnmefihdjglaaGreatKA
import Derived.Deep.RegionHeld3
import Derived.IntWalk
import Derived.Deep.RegionWith
import Derived.Laws.StructEq
import Derived.ChangeKeysEq
import Derived.Deep.DeepCutAuto
import Derived.Lib.Strings
import Derived.Lib.Slices
import Derived.Lib.Walk
import Derived.Lib.Bytealg
set_option maxRecDepth 100000
set_option maxHeartbeats 64000000
set_option linter.all false
namespace Go.Proofs.YtjjnmefihdjglaaGreat
open Go
theorem aT {α : Type _} (l : List α) (i : Nat) (a : α) : l.toArray.setIfInBounds i a = (l.set i a).toArray := List.setIfInBounds_toArray l i a
theorem aZ {α : Type _} {x : α} {xs : List α} {a : α} : (x :: xs).set 0 a = a :: xs := rfl
theorem aS {α : Type _} {x : α} {xs : List α} {i : Nat} {a : α} : (x :: xs).set (i + 1) a = x :: xs.set i a := rfl
section
variable {P : Program} {ops : Array Oper} {Q : Exit → Act → World → Prop} {md : Region.Mode} {S : World → Prop}
theorem tk (i : Nat) {oi : Oper} {rest : List Oper} {v : Value} {fuel : Nat} {listed : Array Bool} {a : Act} {w : World} (hi : ops.toList.drop i = oi :: rest)
  (hb : (Region.noSelect ops && Region.free md ops listed i && (Region.ready md ops listed).contains i) = true)
  (hQ : ∀ c a w,Q (.panic c) (a.put oi.dst v) w → Q (.panic c) a w) (hw : Region.wanted oi (yielded ops a.tmps) = true)
  (hy : ∀ w,S w → (execOp a.eval oi).run P w = .ok (.value v) w) (hS : S w)
  (h : wpAnyH P md ops Q S fuel (listed.setIfInBounds i true) (a.put oi.dst v) w) : wpAnyH P md ops Q S (fuel + 1) listed a w := by
 simp only [Bool.and_eq_true] at hb
 refine wpAnyH_take ?_ hb.1.1 hb.1.2 hb.2 hQ (.inl ⟨hw,hy⟩) hS h
 have := congrArg (·[0]?) hi
 simpa using this
theorem aR {fuel : Nat} {listed : Array Bool} {a : Act} {w : World} {i : Nat} {o : Oper} {rest : List Oper} {rs : List Nat} (ho : ops.toList.drop i = o :: rest)
  (h : ∀ K' : Act → World → Prop, Shut (∀ a w, S w → (S w → wpAnyH P md ops Q S fuel (listed.setIfInBounds i true) a w) → K' a w) → if Region.wanted o (yielded ops a.tmps) = true then Oper.wp P o a w K' Q else K' (a.put o.dst undef) w)
  (hs : AllReadyH P md ops Q S fuel listed a w rs) : AllReadyH P md ops Q S fuel listed a w (i :: rs) :=
 AllReadyH.cons (by have := congrArg (·[0]?) ho; simpa using this) h hs
theorem aN {fuel : Nat} {listed : Array Bool} {a : Act} {w : World} : AllReadyH P md ops Q S fuel listed a w [] := AllReadyH.nil
theorem wR {rs : List Nat} {fuel : Nat} {listed : Array Bool} {a : Act} {w : World} (hr : Region.ready md ops listed = rs) (hne : rs ≠ []) (h : AllReadyH P md ops Q S fuel listed a w rs) : wpAnyH P md ops Q S (fuel + 1) listed a w := wpAnyH_ready hr hne h
theorem tk0 (i : Nat) {oi : Oper} {rest : List Oper} {fuel : Nat} {listed : Array Bool} {a : Act} {w : World} (hi : ops.toList.drop i = oi :: rest)
  (hb : (Region.noSelect ops && Region.free md ops listed i && (Region.ready md ops listed).contains i) = true)
  (hQ : ∀ c a w,Q (.panic c) (a.put oi.dst undef) w → Q (.panic c) a w) (hw : Region.wanted oi (yielded ops a.tmps) = false) (hS : S w)
  (h : wpAnyH P md ops Q S fuel (listed.setIfInBounds i true) (a.put oi.dst undef) w) : wpAnyH P md ops Q S (fuel + 1) listed a w := by
 simp only [Bool.and_eq_true] at hb
 refine wpAnyH_take ?_ hb.1.1 hb.1.2 hb.2 hQ (.inr ⟨hw,rfl⟩) hS h
 have := congrArg (·[0]?) hi
 simpa using this
end
end Go.Proofs.YtjjnmefihdjglaaGreat
namespace Go.Proofs.YtjjnmefihdjglaaGreat
open Go.RowKit
def decV (M S : Int) : Value := .agg #[.int .i64 M,.int .i64 S]
def goodB (M S : Int) : Bool := decide (0 ≤ S ∧ S ≤ 18 ∧ M ≠ -9223372036854775808 ∧ (S = 0 ∨ M.tmod 10 ≠ 0))
def I64 (m : Int) : Prop := -9223372036854775808 ≤ m ∧ m ≤ 9223372036854775807
theorem Good_any (M S : Int) (w : World) (hM : I64 M) (hS : I64 S) :
  Calls Tryz.prog 130 #[decV M S] w fun e w' => e = .returned (.bool (goodB M S)) ∧ Ext w w' := by
 unfold decV
 obtain ⟨hM1,hM2⟩ := hM
 obtain ⟨hS1,hS2⟩ := hS
 by_cases h0 : 0 ≤ S
 ·by_cases h1 : S ≤ 18
  ·by_cases h2 : M = -9223372036854775808
   ·have hb : goodB M S = false := by unfold goodB; simp [h2]
    have H := Lib.hid hb
    have n2 : binOp .neq 2 (.int .i64 M) (.int .i64 (-9223372036854775808)) = pure (.bool false) := by
     rw [h2]; rfl
    clear h2 hb
    go_enter Tryz.func130,Tryz.ntmps130
    go_wp2_with fail
    go_ret
    exact ⟨retB H.out.symm,(Ext.refl _).alloc _⟩
   ·have n2 : binOp .neq 2 (.int .i64 M) (.int .i64 (-9223372036854775808)) = pure (.bool true) := by
     simp only [go_sem]; rw [show (M != -9223372036854775808) = true from by simpa using h2]
    by_cases h3 : S = 0
    ·have hb : goodB M S = true := by unfold goodB; exact decide_eq_true ⟨h0,h1,h2,.inl h3⟩
     have H := Lib.hid hb
     clear h2 hb
     subst h3
     go_enter Tryz.func130,Tryz.ntmps130
     go_wp2_with fail
     go_ret
     exact ⟨retB H.out.symm,(Ext.refl _).alloc _⟩
    ·by_cases h4 : M.tmod 10 = 0
     ·have hb : goodB M S = false := by unfold goodB; simp [h3,h4]
      have H := Lib.hid hb
      clear h2 hb
      go_enter Tryz.func130,Tryz.ntmps130
      go_wp2_with fail
      go_ret
      exact ⟨retB (by rw [H.out]; simpa using h3),(Ext.refl _).alloc _⟩
     ·have hb : goodB M S = true := by unfold goodB; exact decide_eq_true ⟨h0,h1,h2,.inr h4⟩
      have H := Lib.hid hb
      clear h2 hb
      go_enter Tryz.func130,Tryz.ntmps130
      go_wp2_with fail
      go_ret
      exact ⟨retB (by rw [H.out]; simp [h4]),(Ext.refl _).alloc _⟩
  ·have hb : goodB M S = false := by unfold goodB; simp [h1]
   have H := Lib.hid hb
   clear hb
   go_enter Tryz.func130,Tryz.ntmps130
   go_wp2_with fail
   go_ret
   exact ⟨retB H.out.symm,(Ext.refl _).alloc _⟩
 ·have hb : goodB M S = false := by unfold goodB; simp [h0]
  have H := Lib.hid hb
  clear hb
  go_enter Tryz.func130,Tryz.ntmps130
  go_wp2_with fail
  go_ret
  exact ⟨retB H.out.symm,(Ext.refl _).alloc _⟩
def numV (neg : Bool) (N : Nat) (s : Int) : Value := .agg #[.bool neg,.int .u64 (wd N 0 : Int),.int .u64 (wd N 1 : Int),.int .u64 (wd N 2 : Int),.int .u64 (wd N 3 : Int),.int .i64 s]
theorem numberOf_held {w w' : World} {b : Nat} {M S : Int} (x : Ext w w') (hz : b + 2 ≤ w.heap.size) (h : w.cell? ⟨b,0,none⟩ = some (.int .i64 M) ∧ w.cell? ⟨b,1,none⟩ = some (.int .i64 S) ∧ w.cell? ⟨b + 1,0,none⟩ = some (.bool false) ∧ w.frozen? ⟨b + 1,0,none⟩ = false ∧ w.cell? ⟨b + 1,1,none⟩ = some (.int .u64 0) ∧ w.frozen? ⟨b + 1,1,none⟩ = false ∧ w.cell? ⟨b + 1,2,none⟩ = some (.int .u64 0) ∧ w.frozen? ⟨b + 1,2,none⟩ = false ∧ w.cell? ⟨b + 1,3,none⟩ = some (.int .u64 0) ∧ w.frozen? ⟨b + 1,3,none⟩ = false ∧ w.cell? ⟨b + 1,4,none⟩ = some (.int .u64 0) ∧ w.frozen? ⟨b + 1,4,none⟩ = false ∧ w.cell? ⟨b + 1,5,none⟩ = some (.int .i64 0) ∧ w.frozen? ⟨b + 1,5,none⟩ = false) :
  w'.cell? ⟨b,0,none⟩ = some (.int .i64 M) ∧ w'.cell? ⟨b,1,none⟩ = some (.int .i64 S) ∧ w'.cell? ⟨b + 1,0,none⟩ = some (.bool false) ∧ w'.frozen? ⟨b + 1,0,none⟩ = false ∧ w'.cell? ⟨b + 1,1,none⟩ = some (.int .u64 0) ∧ w'.frozen? ⟨b + 1,1,none⟩ = false ∧ w'.cell? ⟨b + 1,2,none⟩ = some (.int .u64 0) ∧ w'.frozen? ⟨b + 1,2,none⟩ = false ∧ w'.cell? ⟨b + 1,3,none⟩ = some (.int .u64 0) ∧ w'.frozen? ⟨b + 1,3,none⟩ = false ∧ w'.cell? ⟨b + 1,4,none⟩ = some (.int .u64 0) ∧ w'.frozen? ⟨b + 1,4,none⟩ = false ∧ w'.cell? ⟨b + 1,5,none⟩ = some (.int .i64 0) ∧ w'.frozen? ⟨b + 1,5,none⟩ = false := by
 have h0 : b < w.heap.size := by omega
 have h1 : b + 1 < w.heap.size := by omega
 obtain ⟨g0,g1,g2,g3,g4,g5,g6,g7,g8,g9,g10,g11,g12,g13⟩ := h
 exact ⟨(x.cell (p := ⟨b,0,none⟩) h0).trans g0,(x.cell (p := ⟨b,1,none⟩) h0).trans g1,(x.cell (p := ⟨b + 1,0,none⟩) h1).trans g2,(x.frozen (p := ⟨b + 1,0,none⟩) h1).trans g3,(x.cell (p := ⟨b + 1,1,none⟩) h1).trans g4,(x.frozen (p := ⟨b + 1,1,none⟩) h1).trans g5,(x.cell (p := ⟨b + 1,2,none⟩) h1).trans g6,(x.frozen (p := ⟨b + 1,2,none⟩) h1).trans g7,(x.cell (p := ⟨b + 1,3,none⟩) h1).trans g8,(x.frozen (p := ⟨b + 1,3,none⟩) h1).trans g9,(x.cell (p := ⟨b + 1,4,none⟩) h1).trans g10,(x.frozen (p := ⟨b + 1,4,none⟩) h1).trans g11,(x.cell (p := ⟨b + 1,5,none⟩) h1).trans g12,(x.frozen (p := ⟨b + 1,5,none⟩) h1).trans g13⟩
theorem numberOf_any (M S s : Int) (k : Nat) (w : World) (hM : I64 M) (hs : s - S = (k : Int)) (hk : k < 1000) (hp : M.natAbs * 10 ^ k < W256) :
  Calls Tryz.prog 120 #[decV M S,.int .i64 s] w fun e w' => e = .returned (numV (decide (M < 0)) (M.natAbs * 10 ^ k) s) ∧ Ext w w' := by
 unfold decV
 have hb : M.natAbs < W64 := by unfold I64 W64 at *; omega
 have C1 := fun w => abs_any M w hM
 have C2 := fun w => of_any M.natAbs w hb
 have C3 : ∀ w,Calls Tryz.prog 134 #[wideV M.natAbs,.int .u64 10,.int .i64 k] w fun e w' => e = .returned (wideV (M.natAbs * 10 ^ k)) ∧ Ext w w' := fun w => power_any M.natAbs 10 k w (by decide) (by decide) hk hp
 have e1 : IntKind.i64.wrap (s - S) = (k : Int) := by rw [hs]; exact IntWalk.i64_in _ (by omega)
 clear hs hp hb
 generalize hN : M.natAbs * 10 ^ k = N at *
 generalize hA : M.natAbs = A at *
 clear hN hA
 have C3' : ∀ w,Calls Tryz.prog 134 #[wideV A,.int .u64 10,.int .i64 k] w fun e w' => e = .returned (.agg #[.int .u64 (wd N 0 : Int),.int .u64 (wd N 1 : Int),.int .u64 (wd N 2 : Int),.int .u64 (wd N 3 : Int)]) ∧ Ext w w' := C3
 clear C3
 go_enter Tryz.func120,Tryz.ntmps120
 go_wp2_with fail
 have hx : Ext w ((w.alloc (.cells #[.int .i64 M,.int .i64 S] 38)).alloc (.cells #[.bool false,.int .u64 0,.int .u64 0,.int .u64 0,.int .u64 0,.int .i64 0] 140)) := ((Ext.refl _).alloc _).alloc _
 have hz : w.heap.size + 2 ≤ ((w.alloc (.cells #[.int .i64 M,.int .i64 S] 38)).alloc (.cells #[.bool false,.int .u64 0,.int .u64 0,.int .u64 0,.int .u64 0,.int .i64 0] 140)).heap.size := by rw [heap_size_alloc,heap_size_alloc]; omega
 have hc : ((w.alloc (.cells #[.int .i64 M,.int .i64 S] 38)).alloc (.cells #[.bool false,.int .u64 0,.int .u64 0,.int .u64 0,.int .u64 0,.int .i64 0] 140)).cell? ⟨w.heap.size,0,none⟩ = some (.int .i64 M) ∧ ((w.alloc (.cells #[.int .i64 M,.int .i64 S] 38)).alloc (.cells #[.bool false,.int .u64 0,.int .u64 0,.int .u64 0,.int .u64 0,.int .i64 0] 140)).cell? ⟨w.heap.size,1,none⟩ = some (.int .i64 S) ∧ ((w.alloc (.cells #[.int .i64 M,.int .i64 S] 38)).alloc (.cells #[.bool false,.int .u64 0,.int .u64 0,.int .u64 0,.int .u64 0,.int .i64 0] 140)).cell? ⟨w.heap.size + 1,0,none⟩ = some (.bool false) ∧ ((w.alloc (.cells #[.int .i64 M,.int .i64 S] 38)).alloc (.cells #[.bool false,.int .u64 0,.int .u64 0,.int .u64 0,.int .u64 0,.int .i64 0] 140)).frozen? ⟨w.heap.size + 1,0,none⟩ = false ∧ ((w.alloc (.cells #[.int .i64 M,.int .i64 S] 38)).alloc (.cells #[.bool false,.int .u64 0,.int .u64 0,.int .u64 0,.int .u64 0,.int .i64 0] 140)).cell? ⟨w.heap.size + 1,1,none⟩ = some (.int .u64 0) ∧ ((w.alloc (.cells #[.int .i64 M,.int .i64 S] 38)).alloc (.cells #[.bool false,.int .u64 0,.int .u64 0,.int .u64 0,.int .u64 0,.int .i64 0] 140)).frozen? ⟨w.heap.size + 1,1,none⟩ = false ∧ ((w.alloc (.cells #[.int .i64 M,.int .i64 S] 38)).alloc (.cells #[.bool false,.int .u64 0,.int .u64 0,.int .u64 0,.int .u64 0,.int .i64 0] 140)).cell? ⟨w.heap.size + 1,2,none⟩ = some (.int .u64 0) ∧ ((w.alloc (.cells #[.int .i64 M,.int .i64 S] 38)).alloc (.cells #[.bool false,.int .u64 0,.int .u64 0,.int .u64 0,.int .u64 0,.int .i64 0] 140)).frozen? ⟨w.heap.size + 1,2,none⟩ = false ∧ ((w.alloc (.cells #[.int .i64 M,.int .i64 S] 38)).alloc (.cells #[.bool false,.int .u64 0,.int .u64 0,.int .u64 0,.int .u64 0,.int .i64 0] 140)).cell? ⟨w.heap.size + 1,3,none⟩ = some (.int .u64 0) ∧ ((w.alloc (.cells #[.int .i64 M,.int .i64 S] 38)).alloc (.cells #[.bool false,.int .u64 0,.int .u64 0,.int .u64 0,.int .u64 0,.int .i64 0] 140)).frozen? ⟨w.heap.size + 1,3,none⟩ = false ∧ ((w.alloc (.cells #[.int .i64 M,.int .i64 S] 38)).alloc (.cells #[.bool false,.int .u64 0,.int .u64 0,.int .u64 0,.int .u64 0,.int .i64 0] 140)).cell? ⟨w.heap.size + 1,4,none⟩ = some (.int .u64 0) ∧ ((w.alloc (.cells #[.int .i64 M,.int .i64 S] 38)).alloc (.cells #[.bool false,.int .u64 0,.int .u64 0,.int .u64 0,.int .u64 0,.int .i64 0] 140)).frozen? ⟨w.heap.size + 1,4,none⟩ = false ∧ ((w.alloc (.cells #[.int .i64 M,.int .i64 S] 38)).alloc (.cells #[.bool false,.int .u64 0,.int .u64 0,.int .u64 0,.int .u64 0,.int .i64 0] 140)).cell? ⟨w.heap.size + 1,5,none⟩ = some (.int .i64 0) ∧ ((w.alloc (.cells #[.int .i64 M,.int .i64 S] 38)).alloc (.cells #[.bool false,.int .u64 0,.int .u64 0,.int .u64 0,.int .u64 0,.int .i64 0] 140)).frozen? ⟨w.heap.size + 1,5,none⟩ = false := by simp [go_sem]
 generalize (w.alloc (.cells #[.int .i64 M,.int .i64 S] 38)).alloc (.cells #[.bool false,.int .u64 0,.int .u64 0,.int .u64 0,.int .u64 0,.int .i64 0] 140) = W at *
 go_region_held3 (fun w' => w'.cell? ⟨w.heap.size,0,none⟩ = some (.int .i64 M) ∧ w'.cell? ⟨w.heap.size,1,none⟩ = some (.int .i64 S)) (first | go_keep | exact ⟨(numberOf_held x6 hz hc).1,(numberOf_held x6 hz hc).2.1⟩ | exact ⟨(numberOf_held x5 hz hc).1,(numberOf_held x5 hz hc).2.1⟩) (first | (go_at_call 133; refine (C1 _).mono ?_; rintro e w4 ⟨rfl,rfl⟩) | (go_at_call 132; refine (C2 _).mono ?_; rintro e w5 ⟨rfl,x5⟩) | (go_at_call 134; refine (C3' _).mono ?_; rintro e w6 ⟨rfl,y6⟩; have x6 := x5.trans y6; obtain ⟨q0,q1,g0,f0,g1,f1,g2,f2,g3,f3,g4,f4,g5,f5⟩ := numberOf_held x6 hz hc))
 go_wp2_with fail
 refine bodyPost_ret (v := numV (decide (M < 0)) N s) ?_ rfl ⟨rfl,?_⟩
 ·simp [results,Tryz.results120,go_sem,numV,wideV,g0,g1,g2,g3,g4,g5]
 ·have hb : w.heap.size ≤ w.heap.size + 1 := Nat.le_succ _
  exact ext_setCell (ext_setCell (ext_setCell (ext_setCell (ext_setCell (ext_setCell (hx.drew.trans x6) hb _) hb _) hb _) hb _) hb _) hb _
theorem heap_at2a (w : World) (o p : Obj) : ((w.alloc o).alloc p).heap[w.heap.size]? = some o := (Below.heap_alloc _ _ _ (by rw [heap_size_alloc]; omega)).trans (heap_last _ _)
theorem heap_at2b (w : World) (o p : Obj) : ((w.alloc o).alloc p).heap[w.heap.size + 1]? = some p := by rw [← heap_size_alloc w o]; exact heap_last _ _
def DecIn (b : Nat) (M S : Int) (w : World) : Prop := w.heap[b]? = some (.cells #[.int .i64 M,.int .i64 S] 38 (0,0))
theorem DecIn.ext {b : Nat} {M S : Int} {w w' : World} (h : DecIn b M S w) (hk : Ext w w') : DecIn b M S w' := (hk.heap (Array.getElem?_eq_some_iff.1 h).1).trans h
theorem DecIn.cells {b : Nat} {M S : Int} {w : World} (h : DecIn b M S w) :
  w.cell? ⟨b,0,none⟩ = some (.int .i64 M) ∧ w.cell? ⟨b,1,none⟩ = some (.int .i64 S) := by
 refine ⟨?_,?_⟩ <;> (rw [Lib.cell_of_heap h]; rfl)
theorem DecIn.free {b : Nat} {M S : Int} {w : World} (h : DecIn b M S w) :
  w.frozen? ⟨b,0,none⟩ = false ∧ w.frozen? ⟨b,1,none⟩ = false := ⟨Lib.frozen_of_heap h 0,Lib.frozen_of_heap h 1⟩
def setDec (w : World) (b : Nat) (M S : Int) : World := (w.setCell ⟨b,0,none⟩ (.int .i64 M)).setCell ⟨b,1,none⟩ (.int .i64 S)
theorem DecIn.stored {b : Nat} {M S : Int} {w : World} (h : DecIn b M S w) (M' S' : Int) : DecIn b M' S' (setDec w b M' S') := by
 unfold DecIn at *
 simp [setDec,World.setCell,Array.getElem?_modify,h]
theorem heap_setDec (w : World) (b k : Nat) (M S : Int) (h : k ≠ b) : (setDec w b M S).heap[k]? = w.heap[k]? := by
 unfold setDec
 rw [Below.heap_setCell _ _ _ _ h,Below.heap_setCell _ _ _ _ h]
theorem ext_setDec {a w : World} (h : Ext a w) {b : Nat} (hb : a.heap.size ≤ b) (M S : Int) : Ext a (setDec w b M S) :=
 ext_setCell (ext_setCell h hb _) hb _
theorem counted_any (M S : Int) (w : World) (hM : I64 M) (hS : I64 S) :
  Calls Tryz.prog 119 #[decV M S] w fun e w' => e = .returned (decV (if goodB M S then M else 0) (if goodB M S then S else 0)) ∧ Ext w w' := by
 have C := fun w => Good_any M S w hM hS
 unfold decV at *
 clear hM hS
 have hx : Ext w ((w.alloc (.cells #[.int .i64 M,.int .i64 S] 38)).alloc (.cells #[.int .i64 0,.int .i64 0] 38)) := ((Ext.refl _).alloc _).alloc _
 have h1 : DecIn w.heap.size M S ((w.alloc (.cells #[.int .i64 M,.int .i64 S] 38)).alloc (.cells #[.int .i64 0,.int .i64 0] 38)) := heap_at2a _ _ _
 have h2 : DecIn (w.heap.size + 1) 0 0 ((w.alloc (.cells #[.int .i64 M,.int .i64 S] 38)).alloc (.cells #[.int .i64 0,.int .i64 0] 38)) := heap_at2b _ _ _
 generalize hg : goodB M S = g at *
 clear hg
 cases g
 ·go_enter Tryz.func119,Tryz.ntmps119
  go_wp2_with fail
  refine (C _).mono ?_
  rintro e w1 ⟨rfl,x1⟩
  replace h2 := h2.ext x1
  obtain ⟨d0,d1⟩ := h2.cells
  obtain ⟨f0,f1⟩ := h2.free
  clear h1
  go_wp2_with fail
  refine bodyPost_ret (v := decV 0 0) ?_ rfl ⟨rfl,ext_setDec (hx.trans x1) (Nat.le_succ _) _ _⟩
  obtain ⟨e0,e1⟩ := (h2.stored 0 0).cells
  change (results Tryz.f119 _).run Tryz.prog (setDec w1 (w.heap.size + 1) 0 0) = .ok _ (setDec w1 (w.heap.size + 1) 0 0)
  generalize setDec w1 (w.heap.size + 1) 0 0 = W at *
  simp [results,Tryz.results119,go_sem,e0,e1,decV]
 ·rw [if_pos rfl,if_pos rfl]
  go_enter Tryz.func119,Tryz.ntmps119
  go_wp2_with fail
  refine (C _).mono ?_
  rintro e w1 ⟨rfl,x1⟩
  replace h1 := h1.ext x1
  replace h2 := h2.ext x1
  obtain ⟨c0,c1⟩ := h1.cells
  obtain ⟨d0,d1⟩ := h2.cells
  obtain ⟨f0,f1⟩ := h2.free
  go_wp2_with fail
  refine bodyPost_ret (v := decV M S) ?_ rfl ⟨rfl,ext_setDec (hx.trans x1) (Nat.le_succ _) _ _⟩
  obtain ⟨e0,e1⟩ := (h2.stored M S).cells
  change (results Tryz.f119 _).run Tryz.prog (setDec w1 (w.heap.size + 1) M S) = .ok _ (setDec w1 (w.heap.size + 1) M S)
  generalize setDec w1 (w.heap.size + 1) M S = W at *
  simp [results,Tryz.results119,go_sem,e0,e1,decV]
def ncmp (n : Bool) (A : Nat) (m : Bool) (B : Nat) : Int := if n then (if m then cmpN B A else -1) else (if m then 1 else cmpN A B)
theorem ncompare_any (n m : Bool) (A B : Nat) (s : Int) (w : World) (hA : A < W256) (hB : B < W256) :
  Calls Tryz.prog 121 #[numV n A s,numV m B s] w fun e w' => e = .returned (.int .i64 (ncmp n A m B)) ∧ Ext w w' := by
 have C1 := fun w => compare_any A B w hA hB
 have C2 := fun w => compare_any B A w hB hA
 unfold numV wideV at *
 clear hA hB
 cases n
 ·cases m
  ·go_enter Tryz.func121,Tryz.ntmps121
   go_wp2_with fail
   refine (C1 _).mono ?_
   rintro e w1 ⟨rfl,x1⟩
   go_wp2_with fail
   go_ret
   exact ⟨rfl,(((Ext.refl _).alloc _).alloc _).trans x1⟩
  ·go_enter Tryz.func121,Tryz.ntmps121
   go_wp2_with fail
   go_ret
   exact ⟨rfl,((Ext.refl _).alloc _).alloc _⟩
 ·cases m
  ·go_enter Tryz.func121,Tryz.ntmps121
   go_wp2_with fail
   go_ret
   exact ⟨rfl,((Ext.refl _).alloc _).alloc _⟩
  ·go_enter Tryz.func121,Tryz.ntmps121
   go_wp2_with fail
   refine (C2 _).mono ?_
   rintro e w1 ⟨rfl,x1⟩
   go_wp2_with fail
   go_ret
   exact ⟨rfl,(((Ext.refl _).alloc _).alloc _).trans x1⟩
def nplusN (n : Bool) (A : Nat) (m : Bool) (B : Nat) : Nat := if n = m then A + B else if B ≤ A then A - B else B - A
def nplusS (n : Bool) (A : Nat) (m : Bool) (B : Nat) : Bool := if n = m then n else if B ≤ A then n else m
def strip : Nat → Nat → Nat × Nat
 | N,0 => (N,0)
 | N,s + 1 => if N % 10 = 0 then strip (N / 10) s else (N,s + 1)
def decOk (N s : Nat) : Bool := decide ((strip N s).2 ≤ 18 ∧ (strip N s).1 ≤ 9223372036854775807)
def decMv (neg : Bool) (N s : Nat) : Int := if decOk N s then (if neg then -((strip N s).1 : Int) else ((strip N s).1 : Int)) else 0
def decSv (N s : Nat) : Int := if decOk N s then ((strip N s).2 : Int) else 0
theorem strip_zero : ∀ s,strip 0 s = (0,0)
 | 0 => rfl
 | s + 1 => by unfold strip; rw [if_pos rfl]; exact strip_zero s
def cM (M S : Int) : Int := if goodB M S then M else 0
def cS (M S : Int) : Int := if goodB M S then S else 0
theorem cS_range (M S : Int) : 0 ≤ cS M S ∧ cS M S ≤ 18 := by
 unfold cS goodB
 split
 ·rename_i h; simp at h; omega
 ·omega
theorem cM_range (M S : Int) (h : I64 M) : -9223372036854775807 ≤ cM M S ∧ cM M S ≤ 9223372036854775807 := by
 unfold I64 at h
 unfold cM goodB
 split
 ·rename_i h; simp at h; omega
 ·omega
def scN (M S : Int) (s : Int) : Nat := M.natAbs * 10 ^ (s - S).toNat
theorem scN_lt (M S s : Int) (hM : -9223372036854775807 ≤ M ∧ M ≤ 9223372036854775807) (hS : 0 ≤ S) (hs : s ≤ 18) : scN M S s < 10000000000000000000000000000000000000 := by
 unfold scN
 have h1 : 10 ^ (s - S).toNat ≤ 10 ^ 18 := Nat.pow_le_pow_right (by omega) (by omega)
 have h2 : M.natAbs ≤ 9223372036854775807 := by omega
 have h3 := Nat.mul_le_mul h2 h1
 have h4 : 9223372036854775807 * 10 ^ 18 < 10000000000000000000000000000000000000 := by decide
 omega
def cmpD (m1 s1 m2 s2 : Int) : Int := ncmp (decide (m1 < 0)) (scN m1 s1 (max s1 s2)) (decide (m2 < 0)) (scN m2 s2 (max s1 s2))
theorem numberOf_sc (M S s : Int) (w : World) (hM : -9223372036854775807 ≤ M ∧ M ≤ 9223372036854775807) (hS : 0 ≤ S) (h : S ≤ s) (hs : s ≤ 18) :
  Calls Tryz.prog 120 #[.agg #[.int .i64 M,.int .i64 S],.int .i64 s] w fun e w' => e = .returned (.agg #[.bool (decide (M < 0)),.int .u64 (wd (scN M S s) 0 : Int),.int .u64 (wd (scN M S s) 1 : Int),.int .u64 (wd (scN M S s) 2 : Int),.int .u64 (wd (scN M S s) 3 : Int),.int .i64 s]) ∧ Ext w w' :=
 numberOf_any M S s (s - S).toNat w ⟨by omega,by omega⟩ (by omega) (by omega) (by have := scN_lt M S s hM hS hs; unfold scN at this; unfold W256; omega)
def TwoIn (w : World) (b c : Nat) (m s n t : Int) (w' : World) : Prop := Ext w w' ∧ DecIn b m s w' ∧ DecIn c n t w'
theorem two_keep {w : World} {b c : Nat} {m s n t : Int} {w0 : World} (h : TwoIn w b c m s n t w0) {k : Nat} {args : Array Value} {v : Value} (C : Calls Tryz.prog k args w0 fun e w' => e = .returned v ∧ Ext w0 w') :
  Calls Tryz.prog k args w0 fun e w' => e = .returned v ∧ TwoIn w b c m s n t w' ∧ w'.cell? ⟨b,0,none⟩ = some (.int .i64 m) ∧ w'.cell? ⟨b,1,none⟩ = some (.int .i64 s) ∧ w'.cell? ⟨c,0,none⟩ = some (.int .i64 n) ∧ w'.cell? ⟨c,1,none⟩ = some (.int .i64 t) ∧ w'.frozen? ⟨b,0,none⟩ = false ∧ w'.frozen? ⟨b,1,none⟩ = false ∧ w'.frozen? ⟨c,0,none⟩ = false ∧ w'.frozen? ⟨c,1,none⟩ = false :=
 C.mono (fun _ _ ⟨he,x⟩ => ⟨he,⟨h.1.trans x,h.2.1.ext x,h.2.2.ext x⟩,(h.2.1.ext x).cells.1,(h.2.1.ext x).cells.2,(h.2.2.ext x).cells.1,(h.2.2.ext x).cells.2,(h.2.1.ext x).free.1,(h.2.1.ext x).free.2,(h.2.2.ext x).free.1,(h.2.2.ext x).free.2⟩)
theorem Compare_any (M S M' S' : Int) (w : World) (hM : I64 M) (hS : I64 S) (hM' : I64 M') (hS' : I64 S') :
  Calls Tryz.prog 88 #[decV M S,decV M' S'] w fun e w' => e = .returned (.int .i64 (cmpD (cM M S) (cS M S) (cM M' S') (cS M' S'))) ∧ Ext w w' := by
 have C : ∀ w,Calls Tryz.prog 119 #[.agg #[.int .i64 M,.int .i64 S]] w fun e w' => e = .returned (.agg #[.int .i64 (cM M S),.int .i64 (cS M S)]) ∧ Ext w w' := fun w => counted_any M S w hM hS
 have C' : ∀ w,Calls Tryz.prog 119 #[.agg #[.int .i64 M',.int .i64 S']] w fun e w' => e = .returned (.agg #[.int .i64 (cM M' S'),.int .i64 (cS M' S')]) ∧ Ext w w' := fun w => counted_any M' S' w hM' hS'
 have hm1 := cM_range M S hM
 have hm2 := cM_range M' S' hM'
 have hs1 := cS_range M S
 have hs2 := cS_range M' S'
 generalize cM M S = m1 at *
 generalize cS M S = s1 at *
 generalize cM M' S' = m2 at *
 generalize cS M' S' = s2 at *
 clear hM hS hM' hS'
 obtain ⟨s,hs⟩ : ∃ s,s = max s1 s2 := ⟨_,rfl⟩
 have D1 := fun w => numberOf_sc m1 s1 s w hm1 hs1.1 (by omega) (by omega)
 have D2 := fun w => numberOf_sc m2 s2 s w hm2 hs2.1 (by omega) (by omega)
 have l1 := scN_lt m1 s1 s hm1 hs1.1 (by omega)
 have l2 := scN_lt m2 s2 s hm2 hs2.1 (by omega)
 unfold cmpD decV
 rw [← hs]
 generalize scN m1 s1 s = N1 at *
 generalize scN m2 s2 s = N2 at *
 have D3 : ∀ w,Calls Tryz.prog 121 #[.agg #[.bool (decide (m1 < 0)),.int .u64 (wd N1 0 : Int),.int .u64 (wd N1 1 : Int),.int .u64 (wd N1 2 : Int),.int .u64 (wd N1 3 : Int),.int .i64 s],.agg #[.bool (decide (m2 < 0)),.int .u64 (wd N2 0 : Int),.int .u64 (wd N2 1 : Int),.int .u64 (wd N2 2 : Int),.int .u64 (wd N2 3 : Int),.int .i64 s]] w fun e w' => e = .returned (.int .i64 (ncmp (decide (m1 < 0)) N1 (decide (m2 < 0)) N2)) ∧ Ext w w' := fun w => ncompare_any _ _ N1 N2 s w (by unfold W256; omega) (by unfold W256; omega)
 generalize ncmp (decide (m1 < 0)) N1 (decide (m2 < 0)) N2 = r at *
 generalize decide (m1 < 0) = n1 at *
 generalize decide (m2 < 0) = n2 at *
 clear l1 l2 hm1 hm2 hs1 hs2
 subst hs
 have hx : Ext w ((w.alloc (.cells #[.int .i64 M,.int .i64 S] 38)).alloc (.cells #[.int .i64 M',.int .i64 S'] 38)) := ((Ext.refl _).alloc _).alloc _
 have h1 : DecIn w.heap.size M S ((w.alloc (.cells #[.int .i64 M,.int .i64 S] 38)).alloc (.cells #[.int .i64 M',.int .i64 S'] 38)) := heap_at2a _ _ _
 have h2 : DecIn (w.heap.size + 1) M' S' ((w.alloc (.cells #[.int .i64 M,.int .i64 S] 38)).alloc (.cells #[.int .i64 M',.int .i64 S'] 38)) := heap_at2b _ _ _
 go_enter Tryz.func88,Tryz.ntmps88
 go_wp2_with fail
 generalize (w.alloc (.cells #[.int .i64 M,.int .i64 S] 38)).alloc (.cells #[.int .i64 M',.int .i64 S'] 38) = W at *
 obtain ⟨c0,c1⟩ := h1.cells
 obtain ⟨d0,d1⟩ := h2.cells
 have hP : TwoIn w w.heap.size (w.heap.size + 1) M S M' S' W.drew := ⟨hx.drew,h1.ext (Ext.refl W).drew,h2.ext (Ext.refl W).drew⟩
 have E1 := fun w0 (h : TwoIn w w.heap.size (w.heap.size + 1) M S M' S' w0) => two_keep h (C w0)
 have E2 := fun w0 (h : TwoIn w w.heap.size (w.heap.size + 1) M S M' S' w0) => two_keep h (C' w0)
 clear C C'
 go_region_with (first
  | (go_at_call 119; (with_reducible refine (E1 _ ?h).mono ?_); (case h => first | exact H | exact hP); rintro e wz ⟨rfl,H,p0,p1,q0,q1,f0,f1,g0,g1⟩)
  | (go_at_call 119; (with_reducible refine (E2 _ ?h).mono ?_); (case h => first | exact H | exact hP); rintro e wz ⟨rfl,H,p0,p1,q0,q1,f0,f1,g0,g1⟩))
 all_goals
  have hxz := ext_setDec (ext_setDec H.1 (Nat.le_refl _) m1 s1) (Nat.le_succ _) m2 s2
  have K1 : DecIn w.heap.size m1 s1 (setDec (setDec wz w.heap.size m1 s1) (w.heap.size + 1) m2 s2) := (heap_setDec _ _ _ _ _ (by omega)).trans (H.2.1.stored m1 s1)
  have K2 : DecIn (w.heap.size + 1) m2 s2 (setDec (setDec wz w.heap.size m1 s1) (w.heap.size + 1) m2 s2) := DecIn.stored (M := M') (S := S') ((heap_setDec _ _ _ _ _ (by omega)).trans H.2.2) m2 s2
  unfold setDec at hxz K1 K2
  generalize ((((wz.setCell ⟨w.heap.size,0,none⟩ (.int .i64 m1)).setCell ⟨w.heap.size,1,none⟩ (.int .i64 s1)).setCell ⟨w.heap.size + 1,0,none⟩ (.int .i64 m2)).setCell ⟨w.heap.size + 1,1,none⟩ (.int .i64 s2)) = V at *
  clear p0 p1 q0 q1 f0 f1 g0 g1 H c0 c1 d0 d1 h1 h2 hx hP
  obtain ⟨k0,k1⟩ := K1.cells
  obtain ⟨l0,l1⟩ := K2.cells
  go_wp2_with fail
  have hP : TwoIn w w.heap.size (w.heap.size + 1) m1 s1 m2 s2 V.drew := ⟨hxz.drew,K1.ext (Ext.refl V).drew,K2.ext (Ext.refl V).drew⟩
  have F1 := fun w0 (h : TwoIn w w.heap.size (w.heap.size + 1) m1 s1 m2 s2 w0) => two_keep h (D1 w0)
  have F2 := fun w0 (h : TwoIn w w.heap.size (w.heap.size + 1) m1 s1 m2 s2 w0) => two_keep h (D2 w0)
  have F3 := fun w0 (h : TwoIn w w.heap.size (w.heap.size + 1) m1 s1 m2 s2 w0) => two_keep h (D3 w0)
  clear D1 D2 D3 E1 E2 K1 K2
  go_region_held3 (fun w' => w'.cell? ⟨w.heap.size,0,none⟩ = some (.int .i64 m1) ∧ w'.cell? ⟨w.heap.size,1,none⟩ = some (.int .i64 s1) ∧ w'.cell? ⟨w.heap.size + 1,0,none⟩ = some (.int .i64 m2) ∧ w'.cell? ⟨w.heap.size + 1,1,none⟩ = some (.int .i64 s2)) (first | exact ⟨p0,p1,q0,q1⟩ | exact ⟨k0,k1,l0,l1⟩ | go_keep) (first
   | (go_at_call 120; (with_reducible refine (F1 _ ?h).mono ?_); (case h => first | exact H | exact hP); rintro e wy ⟨rfl,H,p0,p1,q0,q1,-,-,-,-⟩)
   | (go_at_call 120; (with_reducible refine (F2 _ ?h).mono ?_); (case h => first | exact H | exact hP); rintro e wy ⟨rfl,H,p0,p1,q0,q1,-,-,-,-⟩)
   | (go_at_call 121; (with_reducible refine (F3 _ ?h).mono ?_); (case h => first | exact H | exact hP); rintro e wy ⟨rfl,H,p0,p1,q0,q1,-,-,-,-⟩))
  all_goals
   go_wp2_with fail
   go_ret
   exact ⟨rfl,H.1⟩
def addN (m1 s1 m2 s2 : Int) : Nat := nplusN (decide (m1 < 0)) (scN m1 s1 (max s1 s2)) (decide (m2 < 0)) (scN m2 s2 (max s1 s2))
def addB (m1 s1 m2 s2 : Int) : Bool := nplusS (decide (m1 < 0)) (scN m1 s1 (max s1 s2)) (decide (m2 < 0)) (scN m2 s2 (max s1 s2))
def addM (m1 s1 m2 s2 : Int) : Int := decMv (addB m1 s1 m2 s2) (addN m1 s1 m2 s2) (max s1 s2).toNat
def addS (m1 s1 m2 s2 : Int) : Int := decSv (addN m1 s1 m2 s2) (max s1 s2).toNat
def addOk (m1 s1 m2 s2 : Int) : Bool := decOk (addN m1 s1 m2 s2) (max s1 s2).toNat
theorem good_range {M S : Int} (h : goodB M S = true) : 0 ≤ S ∧ S ≤ 18 ∧ M ≠ -9223372036854775808 := by unfold goodB at h; simp at h; omega
def cmpS (a b : ByteArray) : Int := Lib.compareBytes a.data.toList b.data.toList
def cmpI (x y : Int) : Int := if x < y then -1 else if y < x then 1 else 0
def cmpB (x y : Bool) : Int := if x == y then 0 else if y then -1 else 1
def orL : List Int → Int
 | [] => 0
 | x :: l => if x ≠ 0 then x else orL l
def C3 (x : Int) : Prop := x = -1 ∨ x = 0 ∨ x = 1
theorem cmpI_c3 (x y : Int) : C3 (cmpI x y) := by unfold C3 cmpI; split <;> (try split) <;> simp
theorem cmpB_c3 (x y : Bool) : C3 (cmpB x y) := by cases x <;> cases y <;> (unfold C3; decide)
theorem cmpBytes_c3 : ∀ (l m : List UInt8),C3 (Lib.compareBytes l m)
 | [],[] => .inr (.inl rfl)
 | [],_ :: _ => .inl rfl
 | _ :: _,[] => .inr (.inr rfl)
 | a :: l,b :: m => by
   unfold Lib.compareBytes
   split
   ·exact .inl rfl
   ·split
    ·exact .inr (.inr rfl)
    ·exact cmpBytes_c3 l m
theorem cmpS_c3 (a b : ByteArray) : C3 (cmpS a b) := cmpBytes_c3 _ _
theorem orL_c3 : ∀ (l : List Int),(∀ x ∈ l,C3 x) → C3 (orL l)
 | [],_ => .inr (.inl rfl)
 | x :: l,h => by
   unfold orL
   split
   ·exact h x (by simp)
   ·exact orL_c3 l (fun y hy => h y (by simp [hy]))
theorem CompareString_any (a b : ByteArray) (w : World) :
  Calls Tryz.prog 72 #[.string a,.string b] w fun e w' => e = .returned (.int .i64 (cmpS a b)) ∧ w' = w := by
 go_enter Tryz.func72,Tryz.ntmps72
 go_wp2
 rw [run_callFunc_extern Tryz.func105 (by kernel_rfl) (by kernel_rfl) (by kernel_rfl) (e := Extern.BytealgCompare.compare) (by kernel_rfl),Lib.run_compareString]
 simp only [Result.andThen]
 rw [Oper.upon_value]
 go_wp2
 go_ret
 exact ⟨rfl,rfl⟩
theorem strCompare_any (a b : ByteArray) (w : World) :
  Calls Tryz.prog 41 #[.string a,.string b] w fun e w' => e = .returned (.int .i64 (cmpS a b)) ∧ Ext w w' := by
 go_enter Tryz.func41,Tryz.ntmps41
 go_wp2_with fail
 refine (CompareString_any _ _ _).mono ?_
 rintro e w' ⟨rfl,rfl⟩
 go_wp2_with fail
 go_ret
 exact ⟨rfl,Ext.refl _⟩
theorem cmpInt_any (x y : Int) (w : World) :
  Calls Tryz.prog 87 #[.int .i64 x,.int .i64 y] w fun e w' => e = .returned (.int .i64 (cmpI x y)) ∧ Ext w w' := by
 go_enter Tryz.func87,Tryz.ntmps87
 go_wp2
 all_goals (go_ret; refine ⟨?_,Ext.refl _⟩; unfold cmpI; (repeat' split) <;> first | rfl | (exfalso; omega))
theorem cmpInt64_any (x y : Int) (w : World) :
  Calls Tryz.prog 86 #[.int .i64 x,.int .i64 y] w fun e w' => e = .returned (.int .i64 (cmpI x y)) ∧ Ext w w' := by
 go_enter Tryz.func86,Tryz.ntmps86
 go_wp2
 all_goals (go_ret; refine ⟨?_,Ext.refl _⟩; unfold cmpI; (repeat' split) <;> first | rfl | (exfalso; omega))
theorem bools_any (x y : Bool) (w : World) :
  Calls Tryz.prog 85 #[.bool x,.bool y] w fun e w' => e = .returned (.int .i64 (cmpB x y)) ∧ Ext w w' := by
 cases x <;> cases y <;>
  (go_enter Tryz.func85,Tryz.ntmps85
   go_wp2
   go_ret
   exact ⟨rfl,Ext.refl _⟩)
def IntsAt (b o : Nat) (l : List Int) (w : World) : Prop := ∀ i (h : i < l.length),w.cell? ⟨b,o + i,none⟩ = some (.int .i64 l[i])
theorem Or_any (b o c : Nat) (l : List Int) (w : World) (hl : l.length < 1000000) (hc : IntsAt b o l w) :
  Calls Tryz.prog 83 #[.slice (some ⟨b,o,none⟩) l.length c] w fun e w' => e = .returned (.int .i64 (orL l)) ∧ Ext w w' := by
 obtain ⟨R,hR⟩ : ∃ R,orL l = R := ⟨_,rfl⟩
 rw [hR]
 go_enter Tryz.func83,Tryz.ntmps83
 go_wp2_with fail
 go_loopw [8] (fun i wr => ∃ k : Nat,i = .int .i64 k ∧ k ≤ l.length ∧ Hid (orL (l.drop k) = R) ∧ wr = w) (fun i _ => l.length - (intOf i).toNat)
 case atStart => exact ⟨0,rfl,Nat.zero_le _,Lib.hid (by rw [List.drop_zero]; exact hR),rfl⟩
 case round =>
  obtain ⟨k,rfl,hk,hz,rfl⟩ := hrel
  by_cases hlt : k < l.length
  ·have g := hc k hlt
   have hd := hz.out
   rw [List.drop_eq_getElem_cons hlt] at hd
   unfold orL at hd
   generalize l[k] = x at *
   by_cases h0 : x = 0
   ·subst h0
    rw [if_neg (by decide)] at hd
    replace hd := Lib.hid hd
    clear hz hR
    go_wp2_with fail
    go_roundw
    case rel => exact ⟨k + 1,rfl,hlt,hd,by first | trivial | rfl⟩
    case measure => simp only [intOf]; omega
   ·rw [if_pos h0] at hd
    replace hd := Lib.hid hd
    clear hz hR
    go_wp2_with fail
    go_ret
    exact ⟨retI hd.out,Ext.refl _⟩
  ·have hd := hz.out
   rw [List.drop_eq_nil_of_le (by omega)] at hd
   have hk2 : k = l.length := by omega
   subst hk2
   replace hd : Hid ((0 : Int) = R) := Lib.hid hd
   clear hz hR
   go_wp2_with fail
   go_ret
   exact ⟨retI hd.out,Ext.refl _⟩
def LabsAt (b o : Nat) (l : List (ByteArray × ByteArray)) (w : World) : Prop := ∀ i (h : i < l.length),w.cell? ⟨b,o + i * 2,none⟩ = some (.string l[i].1) ∧ w.cell? ⟨b,o + i * 2 + 1,none⟩ = some (.string l[i].2)
def LabA (a : Option Addr) (l : List (ByteArray × ByteArray)) (w : World) : Prop := 0 < l.length → ∃ b o,a = some ⟨b,o,none⟩ ∧ b < w.heap.size ∧ LabsAt b o l w
theorem LabA.ext {a : Option Addr} {l : List (ByteArray × ByteArray)} {w w' : World} (h : LabA a l w) (x : Ext w w') : LabA a l w' := fun h0 => by
 obtain ⟨b,o,rfl,hb,hl⟩ := h h0
 exact ⟨b,o,rfl,Nat.lt_of_lt_of_le hb x.size,fun i hi => ⟨(x.cell hb).trans (hl i hi).1,(x.cell hb).trans (hl i hi).2⟩⟩
theorem LabA.nil (a : Option Addr) (w : World) : LabA a [] w := fun h => absurd h (by simp)
def cmpL (x y : ByteArray × ByteArray) : Int := orL [cmpS x.1 y.1,cmpS x.2 y.2]
def cmpLs : List (ByteArray × ByteArray) → List (ByteArray × ByteArray) → Int
 | [],[] => 0
 | [],_ :: _ => -1
 | _ :: _,[] => 1
 | x :: l,y :: m => if cmpL x y ≠ 0 then cmpL x y else cmpLs l m
theorem cmpL_c3 (x y : ByteArray × ByteArray) : C3 (cmpL x y) := orL_c3 _ (by intro z hz; simp at hz; rcases hz with rfl | rfl <;> exact cmpS_c3 _ _)
theorem cmpLs_c3 : ∀ (l m : List (ByteArray × ByteArray)),C3 (cmpLs l m)
 | [],[] => .inr (.inl rfl)
 | [],_ :: _ => .inl rfl
 | _ :: _,[] => .inr (.inr rfl)
 | x :: l,y :: m => by
   unfold cmpLs
   split
   ·exact cmpL_c3 x y
   ·exact cmpLs_c3 l m
theorem IntsAt.mk {w : World} {b : Nat} {t : TypeId} {fr : Nat × Nat} (l : List Int) (h : w.heap[b]? = some (.cells (l.map fun x => Value.int .i64 x).toArray t fr)) : IntsAt b 0 l w := by
 intro i hi
 rw [Lib.cell_of_heap h]
 simp [hi]
def LabIn (b : Nat) (n v : ByteArray) (w : World) : Prop := w.heap[b]? = some (.cells #[.string n,.string v] 69 (0,0))
theorem LabIn.ext {b : Nat} {n v : ByteArray} {w w' : World} (h : LabIn b n v w) (hk : Ext w w') : LabIn b n v w' := (hk.heap (Array.getElem?_eq_some_iff.1 h).1).trans h
theorem LabIn.cells {b : Nat} {n v : ByteArray} {w : World} (h : LabIn b n v w) : w.cell? ⟨b,0,none⟩ = some (.string n) ∧ w.cell? ⟨b,1,none⟩ = some (.string v) := by
 refine ⟨?_,?_⟩ <;> (rw [Lib.cell_of_heap h]; rfl)
theorem cmpL_any (n1 v1 n2 v2 : ByteArray) (w : World) :
  Calls Tryz.prog 116 #[.agg #[.string n1,.string v1],.agg #[.string n2,.string v2]] w fun e w' => e = .returned (.int .i64 (cmpL (n1,v1) (n2,v2))) ∧ Ext w w' := by
 have S1 := fun w => strCompare_any n1 n2 w
 have S2 := fun w => strCompare_any v1 v2 w
 have O : ∀ (b : Nat) (W : World),IntsAt b 0 [cmpS n1 n2,cmpS v1 v2] W → Calls Tryz.prog 83 #[.slice (some ⟨b,0,none⟩) 2 2] W fun e w' => e = .returned (.int .i64 (orL [cmpS n1 n2,cmpS v1 v2])) ∧ Ext W w' := fun b W h => Or_any b 0 2 [cmpS n1 n2,cmpS v1 v2] W (by simp) h
 unfold cmpL
 dsimp only at *
 generalize orL [cmpS n1 n2,cmpS v1 v2] = R at *
 generalize cmpS n1 n2 = X at *
 generalize cmpS v1 v2 = Y at *
 go_enter Tryz.func116,Tryz.ntmps116
 have hx : Ext w ((w.alloc (.cells #[.string n1,.string v1] 69)).alloc (.cells #[.string n2,.string v2] 69)) := ((Ext.refl _).alloc _).alloc _
 have h1 : LabIn w.heap.size n1 v1 ((w.alloc (.cells #[.string n1,.string v1] 69)).alloc (.cells #[.string n2,.string v2] 69)) := heap_at2a _ _ _
 have h2 : LabIn (w.heap.size + 1) n2 v2 ((w.alloc (.cells #[.string n1,.string v1] 69)).alloc (.cells #[.string n2,.string v2] 69)) := heap_at2b _ _ _
 go_wp2_with fail
 generalize (w.alloc (.cells #[.string n1,.string v1] 69)).alloc (.cells #[.string n2,.string v2] 69) = W at *
 obtain ⟨c0,c1⟩ := h1.cells
 obtain ⟨d0,d1⟩ := h2.cells
 have Z : Ext W W.drew := (Ext.refl _).drew
 go_region_held3 (fun w' => w'.cell? ⟨w.heap.size,0,none⟩ = some (.string n1) ∧ w'.cell? ⟨w.heap.size,1,none⟩ = some (.string v1) ∧ w'.cell? ⟨w.heap.size + 1,0,none⟩ = some (.string n2) ∧ w'.cell? ⟨w.heap.size + 1,1,none⟩ = some (.string v2)) (first | exact ⟨p0,p1,q0,q1⟩ | exact ⟨c0,c1,d0,d1⟩ | go_keep) (first
  | (go_at_call 41; (with_reducible refine (S1 _).mono ?_); rintro e wz ⟨rfl,xz⟩; replace Z := Z.trans xz; have p0 := (h1.ext Z).cells.1; have p1 := (h1.ext Z).cells.2; have q0 := (h2.ext Z).cells.1; have q1 := (h2.ext Z).cells.2)
  | (go_at_call 41; (with_reducible refine (S2 _).mono ?_); rintro e wz ⟨rfl,xz⟩; replace Z := Z.trans xz; have p0 := (h1.ext Z).cells.1; have p1 := (h1.ext Z).cells.2; have q0 := (h2.ext Z).cells.1; have q1 := (h2.ext Z).cells.2)
  | (go_at_call 83; (with_reducible refine (O _ _ ?h).mono ?_); (case h => exact IntsAt.mk [X,Y] (heap_last _ _)); rintro e wy ⟨rfl,xz⟩; replace Z := (Z.alloc _).trans xz; have p0 := (h1.ext Z).cells.1; have p1 := (h1.ext Z).cells.2; have q0 := (h2.ext Z).cells.1; have q1 := (h2.ext Z).cells.2))
 all_goals
  go_wp2_with fail
  go_ret
  exact ⟨rfl,hx.trans Z⟩
theorem cmpFunc_any (a1 a2 : Option Addr) (c1 c2 : Nat) (l m : List (ByteArray × ByteArray)) (w : World) (hl : (l.length : Int) ≤ 9223372036854775807) (hm : (m.length : Int) ≤ 9223372036854775807) (h1 : LabA a1 l w) (h2 : LabA a2 m w) :
  Calls Tryz.prog 115 #[.slice a1 l.length c1,.slice a2 m.length c2,.func (.func 116) #[] #[]] w fun e w' => e = .returned (.int .i64 (cmpLs l m)) ∧ Ext w w' := by
 obtain ⟨R,hR⟩ : ∃ R,cmpLs l m = R := ⟨_,rfl⟩
 rw [hR]
 go_enter Tryz.func115,Tryz.ntmps115
 go_wp2_with fail
 go_loopw [13] (fun i wr => ∃ k : Nat,i = .int .i64 k ∧ k ≤ l.length ∧ k ≤ m.length ∧ Hid (cmpLs (l.drop k) (m.drop k) = R) ∧ Ext w wr) (fun i _ => l.length - (intOf i).toNat)
 case atStart => exact ⟨0,rfl,Nat.zero_le _,Nat.zero_le _,Lib.hid hR,Ext.refl _⟩
 case round =>
  obtain ⟨k,rfl,hk,hk2,hz,xr⟩ := hrel
  have hd := hz.out
  clear hz hR
  by_cases hlt : k < l.length
  ·rw [List.drop_eq_getElem_cons hlt] at hd
   obtain ⟨b1,o1,rfl,hb1,hL⟩ := h1 (by omega)
   obtain ⟨q0,q1⟩ := hL k hlt
   have r0 := (xr.cell (p := ⟨b1,o1 + k * 2,none⟩) hb1).trans q0
   have r1 := (xr.cell (p := ⟨b1,o1 + k * 2 + 1,none⟩) hb1).trans q1
   clear q0 q1
   by_cases hlt2 : k < m.length
   ·rw [List.drop_eq_getElem_cons hlt2] at hd
    unfold cmpLs at hd
    obtain ⟨b2,o2,rfl,hb2,hM⟩ := h2 (by omega)
    obtain ⟨q0,q1⟩ := hM k hlt2
    have s0 := (xr.cell (p := ⟨b2,o2 + k * 2,none⟩) hb2).trans q0
    have s1 := (xr.cell (p := ⟨b2,o2 + k * 2 + 1,none⟩) hb2).trans q1
    clear q0 q1
    obtain ⟨x1,x2,ex⟩ : ∃ x1 x2,l[k] = (x1,x2) := ⟨_,_,rfl⟩
    obtain ⟨y1,y2,ey⟩ : ∃ y1 y2,m[k] = (y1,y2) := ⟨_,_,rfl⟩
    rw [ex] at hd r0 r1
    rw [ey] at hd s0 s1
    dsimp only at r0 r1 s0 s1
    have CC := fun w => cmpL_any x1 x2 y1 y2 w
    obtain ⟨cv,hcv⟩ : ∃ cv,cmpL (x1,x2) (y1,y2) = cv := ⟨_,rfl⟩
    rw [hcv] at CC hd
    have k1 := Nat.lt_of_lt_of_le hb1 xr.size
    have k2 := Nat.lt_of_lt_of_le hb2 xr.size
    by_cases h0 : cv = 0
    ·subst h0
     rw [if_neg (by decide)] at hd
     replace hd := Lib.hid hd
     clear h1 h2 hL hM hcv ex ey
     go_wp2_with fail
     (with_reducible refine (CC _).mono ?_)
     rintro e w1 ⟨rfl,z1⟩
     replace xr := (((xr.alloc _).alloc _)).trans z1
     clear r0 r1 s0 s1
     go_wp2_with fail
     go_roundw
     case rel => exact ⟨k + 1,rfl,hlt,hlt2,hd,xr⟩
     case measure => simp only [intOf]; omega
    ·rw [if_pos h0] at hd
     replace hd := Lib.hid hd
     clear h1 h2 hL hM hcv ex ey
     go_wp2_with fail
     (with_reducible refine (CC _).mono ?_)
     rintro e w1 ⟨rfl,z1⟩
     replace xr := (((xr.alloc _).alloc _)).trans z1
     clear r0 r1 s0 s1
     go_wp2_with fail
     go_ret
     exact ⟨retI hd.out,xr⟩
   ·rw [show m.drop k = [] from List.drop_eq_nil_of_le (by omega)] at hd
    replace hd : Hid ((1 : Int) = R) := Lib.hid hd
    have hk3 : m.length ≤ k := by omega
    clear h1 hL hk2 hlt2
    go_wp2_with fail
    go_ret
    exact ⟨retI hd.out,xr.alloc _⟩
  ·rw [show l.drop k = [] from List.drop_eq_nil_of_le (by omega)] at hd
   have hk3 : k = l.length := by omega
   by_cases hlt2 : k < m.length
   ·rw [List.drop_eq_getElem_cons hlt2] at hd
    replace hd : Hid ((-1 : Int) = R) := Lib.hid hd
    clear h1 h2
    go_wp2_with fail
    go_ret
    exact ⟨retI hd.out,xr⟩
   ·rw [show m.drop k = [] from List.drop_eq_nil_of_le (by omega)] at hd
    replace hd : Hid ((0 : Int) = R) := Lib.hid hd
    have hk4 : k = m.length := by omega
    clear h1 h2
    go_wp2_with fail
    go_ret
    exact ⟨retI hd.out,xr⟩
theorem labCompare_any (a1 a2 : Option Addr) (c1 c2 : Nat) (l m : List (ByteArray × ByteArray)) (w : World) (hl : (l.length : Int) ≤ 9223372036854775807) (hm : (m.length : Int) ≤ 9223372036854775807) (h1 : LabA a1 l w) (h2 : LabA a2 m w) :
  Calls Tryz.prog 84 #[.slice a1 l.length c1,.slice a2 m.length c2] w fun e w' => e = .returned (.int .i64 (cmpLs l m)) ∧ Ext w w' := by
 go_enter Tryz.func84,Tryz.ntmps84
 go_wp2_with fail
 (with_reducible refine (cmpFunc_any a1 a2 c1 c2 l m _ hl hm h1 h2).mono ?_)
 rintro e w1 ⟨rfl,z1⟩
 go_wp2_with fail
 go_ret
 exact ⟨rfl,z1⟩
def upd {α : Type} (x : Nat → α) (k : Nat) (v : α) : Nat → α := fun n => if n = k then v else x n
theorem upd_same {α : Type} (x : Nat → α) (k : Nat) (v : α) : upd x k v k = v := if_pos rfl
theorem upd_other {α : Type} (x : Nat → α) {k j : Nat} (v : α) (h : j ≠ k) : upd x k v j = x j := if_neg h
def open_ (f : Nat → Bool) : Nat → Nat
 | 0 => 0
 | n + 1 => (if f n then 0 else 1) + open_ f n
theorem open_zero (f : Nat → Bool) : ∀ n,open_ f n = 0 → ∀ k,k < n → f k = true
 | 0,_,k,hk => by omega
 | n + 1,h,k,hk => by
   unfold open_ at h
   by_cases hf : f n = true
   ·by_cases e : k = n
    ·subst e; exact hf
    ·rw [if_pos hf] at h
     exact open_zero f n (by omega) k (by omega)
   ·rw [if_neg hf] at h; omega
theorem open_upd_out (f : Nat → Bool) (k : Nat) : ∀ n,n ≤ k → open_ (upd f k true) n = open_ f n
 | 0,_ => rfl
 | n + 1,h => by
   unfold open_
   rw [upd_other f true (by omega),open_upd_out f k n (by omega)]
theorem open_upd (f : Nat → Bool) (k : Nat) (hf : f k = false) : ∀ n,k < n → open_ f n = open_ (upd f k true) n + 1
 | 0,h => by omega
 | n + 1,h => by
   by_cases e : k = n
   ·subst e
    unfold open_
    rw [upd_same,hf,open_upd_out f k k (Nat.le_refl _)]
    simp; omega
   ·unfold open_
    rw [upd_other f true (by omega),open_upd f k hf n (by omega)]
    omega
theorem open_pos (f : Nat → Bool) : ∀ n,0 < open_ f n → ∃ k,k < n ∧ f k = false
 | 0,h => by simp [open_] at h
 | n + 1,h => by
   cases hf : f n with
   | false => exact ⟨n,by omega,hf⟩
   | true =>
     unfold open_ at h
     rw [hf] at h
     obtain ⟨k,hk,hk2⟩ := open_pos f n (by simpa using h)
     exact ⟨k,by omega,hk2⟩
theorem getD_set {α : Type} (l : List α) (k : Nat) (v d : α) (hk : k < l.length) : (fun j => (l.set k v).getD j d) = upd (fun j => l.getD j d) k v := by
 funext j
 unfold upd
 by_cases e : j = k
 ·subst e
  rw [if_pos rfl]
  simp [List.getD,hk]
 ·rw [if_neg e]
  simp [List.getD,Ne.symm e]
def readyOk (md : Region.Mode) (ops : Array Oper) (idx : List Nat) (L : List Bool → Array Bool) (bs : List Bool) : Bool :=
 bs.all id || (!(Region.ready md ops (L bs)).isEmpty && (Region.ready md ops (L bs)).all fun i => (List.range bs.length).any fun k => !(bs.getD k true) && i == idx.getD k 0)
theorem wpAnyH_calls {P : Program} {md : Region.Mode} {ops : Array Oper} {Q : Exit → Act → World → Prop} {S : World → Prop}
  (n m : Nat) (idx : List Nat) (val : List Value) (A : List Value → Act) (L : List Bool → Array Bool) (J : World → Prop) (hS : ∀ w,J w → S w)
  (hready : ∀ bs : List Bool,bs.length = n → readyOk md ops idx L bs = true)
  (hset : ∀ (bs : List Bool) k,bs.length = n → k < n → (L bs).setIfInBounds (idx.getD k 0) true = L (bs.set k true))
  (hcall : ∀ (x : List Value) k,x.length = n → k < n → ∀ (K : Act → World → Prop) w,J w → (∀ w',J w' → K (A (x.set k (val.getD k undef))) w') → wpOp P ops Q (idx.getD k 0) K (A x) w)
  (hdone : ∀ (bs : List Bool) (x : List Value) w,bs.length = n → x.length = n → J w → (∀ k,k < n → bs.getD k true = true ∧ x.getD k undef = val.getD k undef) → wpAnyH P md ops Q S m (L bs) (A x) w) :
  ∀ (c : Nat) (bs : List Bool) (x : List Value) (w : World),bs.length = n → x.length = n → open_ (fun k => bs.getD k true) n = c → J w → (∀ k,k < n → bs.getD k true = true → x.getD k undef = val.getD k undef) → wpAnyH P md ops Q S (c + m) (L bs) (A x) w
 | 0,bs,x,w,hb,hl,hc,hJ,hx => by
   have hall := open_zero (fun k => bs.getD k true) n hc
   rw [Nat.zero_add]
   exact hdone bs x w hb hl hJ (fun k hk => ⟨hall k hk,hx k hk (hall k hk)⟩)
 | c + 1,bs,x,w,hb,hl,hc,hJ,hx => by
   have hr := hready bs hb
   unfold readyOk at hr
   obtain ⟨k0,hk0,hf0⟩ := open_pos (fun k => bs.getD k true) n (by omega)
   have hna : bs.all id = false := by
    cases hh : bs.all id with
    | false => rfl
    | true =>
      exfalso
      have h0 : k0 < bs.length := by omega
      have := List.all_eq_true.1 hh bs[k0] (List.getElem_mem h0)
      simp [List.getD,h0] at hf0
      simp [hf0] at this
   rw [hna,Bool.false_or,Bool.and_eq_true] at hr
   obtain ⟨hne,hal⟩ := hr
   rw [show c + 1 + m = (c + m) + 1 from by omega]
   refine ⟨fun h0 => by rw [h0] at hne; simp at hne,fun i hi => ?_⟩
   have hi2 := List.all_eq_true.1 hal i hi
   obtain ⟨k,hk,hk2⟩ := List.any_eq_true.1 hi2
   have hk3 : k < n := by have := List.mem_range.1 hk; omega
   rw [Bool.and_eq_true] at hk2
   obtain ⟨hf,hik⟩ := hk2
   have hf' : bs.getD k true = false := by simpa using hf
   have hik' : i = idx.getD k 0 := by simpa using hik
   subst hik'
   refine hcall x k hl hk3 _ w hJ (fun w' hJ' => ⟨hS w' hJ',?_⟩)
   rw [hset bs k hb hk3]
   have ho := open_upd (fun j => bs.getD j true) k hf' n hk3
   have hg := getD_set bs k true true (by omega)
   have hg2 := getD_set x k (val.getD k undef) undef (by omega)
   refine wpAnyH_calls n m idx val A L J hS hready hset hcall hdone c (bs.set k true) (x.set k (val.getD k undef)) w' (by simpa using hb) (by simpa using hl) (by rw [hg]; omega) hJ' (fun j hj hfj => ?_)
   have e1 : (bs.set k true).getD j true = upd (fun j => bs.getD j true) k true j := congrFun hg j
   have e2 : (x.set k (val.getD k undef)).getD j undef = upd (fun j => x.getD j undef) k (val.getD k undef) j := congrFun hg2 j
   rw [e2]
   rw [e1] at hfj
   by_cases e : j = k
   ·subst e; exact upd_same _ _ _
   ·rw [upd_other _ _ e]
    rw [upd_other _ _ e] at hfj
    exact hx j hj hfj
theorem wpAnyH_calls_at {P : Program} {md : Region.Mode} {ops : Array Oper} {Q : Exit → Act → World → Prop} {S : World → Prop} {fuel : Nat} {listed : Array Bool} {a : Act} {w : World}
  (n m : Nat) (idx : List Nat) (val : List Value) (A : List Value → Act) (L : List Bool → Array Bool) (J : World → Prop)
  (hl : listed = L (List.replicate n false)) (ha : a = A (List.replicate n undef)) (hf : fuel = n + m) (hS : ∀ w,J w → S w)
  (hready : ∀ bs : List Bool,bs.length = n → readyOk md ops idx L bs = true)
  (hset : ∀ (bs : List Bool) k,bs.length = n → k < n → (L bs).setIfInBounds (idx.getD k 0) true = L (bs.set k true))
  (hcall : ∀ (x : List Value) k,x.length = n → k < n → ∀ (K : Act → World → Prop) w,J w → (∀ w',J w' → K (A (x.set k (val.getD k undef))) w') → wpOp P ops Q (idx.getD k 0) K (A x) w)
  (hdone : ∀ (bs : List Bool) (x : List Value) w,bs.length = n → x.length = n → J w → (∀ k,k < n → bs.getD k true = true ∧ x.getD k undef = val.getD k undef) → wpAnyH P md ops Q S m (L bs) (A x) w)
  (hJ : J w) : wpAnyH P md ops Q S fuel listed a w := by
 subst hl ha hf
 have ho : ∀ k,k ≤ n → open_ (fun j => (List.replicate n false).getD j true) k = k := by
  intro k
  induction k with
  | zero => intro _; rfl
  | succ k ih =>
    intro hk
    unfold open_
    rw [ih (by omega)]
    have : (List.replicate n false).getD k true = false := by simp [List.getD,show k < n from by omega]
    rw [this]
    simp; omega
 exact wpAnyH_calls n m idx val A L J hS hready hset hcall hdone n _ _ w (by simp) (by simp) (ho n (Nat.le_refl _)) hJ (fun k hk h => by
  have : (List.replicate n false).getD k true = false := by simp [List.getD,hk]
  rw [this] at h
  cases h)
def ptV (v : Value) (r : Int) (f : Bool) (M S m s : Int) (t : Bool) (T : Int) : Value := .agg #[v,.int .i64 r,.bool f,.int .i64 M,.int .i64 S,.int .i64 m,.int .i64 s,.bool t,.int .i64 T]
def PtIn (b : Nat) (v : Value) (r : Int) (f : Bool) (M S m s : Int) (t : Bool) (T : Int) (w : World) : Prop := w.heap[b]? = some (.cells #[v,.int .i64 r,.bool f,.int .i64 M,.int .i64 S,.int .i64 m,.int .i64 s,.bool t,.int .i64 T] 40 (0,0))
theorem PtIn.ext {b : Nat} {v : Value} {r : Int} {f : Bool} {M S m s : Int} {t : Bool} {T : Int} {w w' : World} (h : PtIn b v r f M S m s t T w) (hk : Ext w w') : PtIn b v r f M S m s t T w' := (hk.heap (Array.getElem?_eq_some_iff.1 h).1).trans h
theorem PtIn.cells {b : Nat} {v : Value} {r : Int} {f : Bool} {M S m s : Int} {t : Bool} {T : Int} {w : World} (h : PtIn b v r f M S m s t T w) :
  w.cell? ⟨b,0,none⟩ = some v ∧ w.cell? ⟨b,1,none⟩ = some (.int .i64 r) ∧ w.cell? ⟨b,2,none⟩ = some (.bool f) ∧ w.cell? ⟨b,3,none⟩ = some (.int .i64 M) ∧ w.cell? ⟨b,4,none⟩ = some (.int .i64 S) ∧ w.cell? ⟨b,5,none⟩ = some (.int .i64 m) ∧ w.cell? ⟨b,6,none⟩ = some (.int .i64 s) ∧ w.cell? ⟨b,7,none⟩ = some (.bool t) ∧ w.cell? ⟨b,8,none⟩ = some (.int .i64 T) := by
 refine ⟨?_,?_,?_,?_,?_,?_,?_,?_,?_⟩ <;> (rw [Lib.cell_of_heap h]; rfl)
def Pts (w : World) (b1 b2 : Nat) (v1 v2 : Value) (r1 : Int) (f1 : Bool) (M1 S1 m1 s1 : Int) (t1 : Bool) (T1 : Int) (r2 : Int) (f2 : Bool) (M2 S2 m2 s2 : Int) (t2 : Bool) (T2 : Int) (W : World) : Prop := Ext w W ∧ PtIn b1 v1 r1 f1 M1 S1 m1 s1 t1 T1 W ∧ PtIn b2 v2 r2 f2 M2 S2 m2 s2 t2 T2 W
theorem Pts.ext {w : World} {b1 b2 : Nat} {v1 v2 : Value} {r1 : Int} {f1 : Bool} {M1 S1 m1 s1 : Int} {t1 : Bool} {T1 : Int} {r2 : Int} {f2 : Bool} {M2 S2 m2 s2 : Int} {t2 : Bool} {T2 : Int} {W W' : World} (h : Pts w b1 b2 v1 v2 r1 f1 M1 S1 m1 s1 t1 T1 r2 f2 M2 S2 m2 s2 t2 T2 W) (x : Ext W W') : Pts w b1 b2 v1 v2 r1 f1 M1 S1 m1 s1 t1 T1 r2 f2 M2 S2 m2 s2 t2 T2 W' := ⟨h.1.trans x,h.2.1.ext x,h.2.2.ext x⟩
theorem six {α : Type} (l : List α) (h : l.length = 6) : ∃ a b c d e f,l = [a,b,c,d,e,f] := by
 match l,h with
 | [a,b,c,d,e,f],_ => exact ⟨a,b,c,d,e,f,rfl⟩
def cmpP (l1 : List (ByteArray × ByteArray)) (r1 : Int) (f1 : Bool) (M1 S1 : Int) (t1 : Bool) (T1 : Int) (l2 : List (ByteArray × ByteArray)) (r2 : Int) (f2 : Bool) (M2 S2 : Int) (t2 : Bool) (T2 : Int) : Int :=
 orL [cmpLs l1 l2,cmpB t1 t2,cmpI T1 T2,cmpI r1 r2,cmpB f1 f2,cmpD (cM M1 S1) (cS M1 S1) (cM M2 S2) (cS M2 S2)]
theorem ptCompare_any (a1 a2 : Option Addr) (c1 c2 : Nat) (l1 l2 : List (ByteArray × ByteArray)) (r1 : Int) (f1 : Bool) (M1 S1 m1 s1 : Int) (t1 : Bool) (T1 : Int) (r2 : Int) (f2 : Bool) (M2 S2 m2 s2 : Int) (t2 : Bool) (T2 : Int) (w : World)
  (n1 : (l1.length : Int) ≤ 9223372036854775807) (n2 : (l2.length : Int) ≤ 9223372036854775807) (h1 : LabA a1 l1 w) (h2 : LabA a2 l2 w) (i1 : I64 M1) (j1 : I64 S1) (i2 : I64 M2) (j2 : I64 S2) :
  Calls Tryz.prog 56 #[ptV (.slice a1 l1.length c1) r1 f1 M1 S1 m1 s1 t1 T1,ptV (.slice a2 l2.length c2) r2 f2 M2 S2 m2 s2 t2 T2] w fun e w' => e = .returned (.int .i64 (cmpP l1 r1 f1 M1 S1 t1 T1 l2 r2 f2 M2 S2 t2 T2)) ∧ Ext w w' := by
 have K1 := fun W (x : Ext w W) => labCompare_any a1 a2 c1 c2 l1 l2 W n1 n2 (h1.ext x) (h2.ext x)
 have K2 := fun W => bools_any t1 t2 W
 have K3 := fun W => cmpInt64_any T1 T2 W
 have K4 := fun W => cmpInt_any r1 r2 W
 have K5 := fun W => bools_any f1 f2 W
 have K6 := fun W => Compare_any M1 S1 M2 S2 W i1 j1 i2 j2
 have O : ∀ (b : Nat) (W : World),IntsAt b 0 [cmpLs l1 l2,cmpB t1 t2,cmpI T1 T2,cmpI r1 r2,cmpB f1 f2,cmpD (cM M1 S1) (cS M1 S1) (cM M2 S2) (cS M2 S2)] W → Calls Tryz.prog 83 #[.slice (some ⟨b,0,none⟩) 6 6] W fun e w' => e = .returned (.int .i64 (cmpP l1 r1 f1 M1 S1 t1 T1 l2 r2 f2 M2 S2 t2 T2)) ∧ Ext W w' := fun b W h => Or_any b 0 6 [cmpLs l1 l2,cmpB t1 t2,cmpI T1 T2,cmpI r1 r2,cmpB f1 f2,cmpD (cM M1 S1) (cS M1 S1) (cM M2 S2) (cS M2 S2)] W (by simp) h
 generalize cmpP l1 r1 f1 M1 S1 t1 T1 l2 r2 f2 M2 S2 t2 T2 = R at *
 generalize cmpLs l1 l2 = X0 at *
 generalize cmpB t1 t2 = X1 at *
 generalize cmpI T1 T2 = X2 at *
 generalize cmpI r1 r2 = X3 at *
 generalize cmpB f1 f2 = X4 at *
 generalize cmpD (cM M1 S1) (cS M1 S1) (cM M2 S2) (cS M2 S2) = X5 at *
 obtain ⟨v1,hv1⟩ : ∃ v,Value.slice a1 l1.length c1 = v := ⟨_,rfl⟩
 obtain ⟨v2,hv2⟩ : ∃ v,Value.slice a2 l2.length c2 = v := ⟨_,rfl⟩
 rw [hv1,hv2] at K1
 rw [hv1,hv2]
 unfold decV at K6
 unfold ptV
 clear hv1 hv2 h1 h2 n1 n2 i1 j1 i2 j2
 have hx : Ext w ((w.alloc (.cells #[v1,.int .i64 r1,.bool f1,.int .i64 M1,.int .i64 S1,.int .i64 m1,.int .i64 s1,.bool t1,.int .i64 T1] 40)).alloc (.cells #[v2,.int .i64 r2,.bool f2,.int .i64 M2,.int .i64 S2,.int .i64 m2,.int .i64 s2,.bool t2,.int .i64 T2] 40)) := ((Ext.refl _).alloc _).alloc _
 have g1 : PtIn w.heap.size v1 r1 f1 M1 S1 m1 s1 t1 T1 ((w.alloc (.cells #[v1,.int .i64 r1,.bool f1,.int .i64 M1,.int .i64 S1,.int .i64 m1,.int .i64 s1,.bool t1,.int .i64 T1] 40)).alloc (.cells #[v2,.int .i64 r2,.bool f2,.int .i64 M2,.int .i64 S2,.int .i64 m2,.int .i64 s2,.bool t2,.int .i64 T2] 40)) := heap_at2a _ _ _
 have g2 : PtIn (w.heap.size + 1) v2 r2 f2 M2 S2 m2 s2 t2 T2 ((w.alloc (.cells #[v1,.int .i64 r1,.bool f1,.int .i64 M1,.int .i64 S1,.int .i64 m1,.int .i64 s1,.bool t1,.int .i64 T1] 40)).alloc (.cells #[v2,.int .i64 r2,.bool f2,.int .i64 M2,.int .i64 S2,.int .i64 m2,.int .i64 s2,.bool t2,.int .i64 T2] 40)) := heap_at2b _ _ _
 go_enter Tryz.func56,Tryz.ntmps56
 go_wp2_with fail
 generalize (w.alloc (.cells #[v1,.int .i64 r1,.bool f1,.int .i64 M1,.int .i64 S1,.int .i64 m1,.int .i64 s1,.bool t1,.int .i64 T1] 40)).alloc (.cells #[v2,.int .i64 r2,.bool f2,.int .i64 M2,.int .i64 S2,.int .i64 m2,.int .i64 s2,.bool t2,.int .i64 T2] 40) = W at *
 have hJ0 : Pts w w.heap.size (w.heap.size + 1) v1 v2 r1 f1 M1 S1 m1 s1 t1 T1 r2 f2 M2 S2 m2 s2 t2 T2 W.drew := ⟨hx.drew,g1.ext (Ext.refl _).drew,g2.ext (Ext.refl _).drew⟩
 clear hx g1 g2
 refine wp_region_held_drew (S := Pts w w.heap.size (w.heap.size + 1) v1 v2 r1 f1 M1 S1 m1 s1 t1 T1 r2 f2 M2 S2 m2 s2 t2 T2) (by kernel_rfl) hJ0 (fun hH => ?_)
 refine tk 0 rfl (by kernel_rfl) (fun _ _ _ h => h) rfl (fun w9 hS9 => by obtain ⟨k0,k1,k2,k3,k4,k5,k6,k7,k8⟩ := hS9.2.1.cells; obtain ⟨p0,p1,p2,p3,p4,p5,p6,p7,p8⟩ := hS9.2.2.cells; go_simp; (try rfl)) hH ?_
 simp only [Act.put,aT,aZ,aS]
 refine tk 1 rfl (by kernel_rfl) (fun _ _ _ h => h) rfl (fun w9 hS9 => by obtain ⟨k0,k1,k2,k3,k4,k5,k6,k7,k8⟩ := hS9.2.1.cells; obtain ⟨p0,p1,p2,p3,p4,p5,p6,p7,p8⟩ := hS9.2.2.cells; go_simp; (try rfl)) hH ?_
 simp only [Act.put,aT,aZ,aS]
 refine tk 2 rfl (by kernel_rfl) (fun _ _ _ h => h) rfl (fun w9 hS9 => by obtain ⟨k0,k1,k2,k3,k4,k5,k6,k7,k8⟩ := hS9.2.1.cells; obtain ⟨p0,p1,p2,p3,p4,p5,p6,p7,p8⟩ := hS9.2.2.cells; go_simp; (try rfl)) hH ?_
 simp only [Act.put,aT,aZ,aS]
 refine tk 3 rfl (by kernel_rfl) (fun _ _ _ h => h) rfl (fun w9 hS9 => by obtain ⟨k0,k1,k2,k3,k4,k5,k6,k7,k8⟩ := hS9.2.1.cells; obtain ⟨p0,p1,p2,p3,p4,p5,p6,p7,p8⟩ := hS9.2.2.cells; go_simp; (try rfl)) hH ?_
 simp only [Act.put,aT,aZ,aS]
 refine tk 5 rfl (by kernel_rfl) (fun _ _ _ h => h) rfl (fun w9 hS9 => by obtain ⟨k0,k1,k2,k3,k4,k5,k6,k7,k8⟩ := hS9.2.1.cells; obtain ⟨p0,p1,p2,p3,p4,p5,p6,p7,p8⟩ := hS9.2.2.cells; go_simp; (try rfl)) hH ?_
 simp only [Act.put,aT,aZ,aS]
 refine tk 6 rfl (by kernel_rfl) (fun _ _ _ h => h) rfl (fun w9 hS9 => by obtain ⟨k0,k1,k2,k3,k4,k5,k6,k7,k8⟩ := hS9.2.1.cells; obtain ⟨p0,p1,p2,p3,p4,p5,p6,p7,p8⟩ := hS9.2.2.cells; go_simp; (try rfl)) hH ?_
 simp only [Act.put,aT,aZ,aS]
 refine tk 7 rfl (by kernel_rfl) (fun _ _ _ h => h) rfl (fun w9 hS9 => by obtain ⟨k0,k1,k2,k3,k4,k5,k6,k7,k8⟩ := hS9.2.1.cells; obtain ⟨p0,p1,p2,p3,p4,p5,p6,p7,p8⟩ := hS9.2.2.cells; go_simp; (try rfl)) hH ?_
 simp only [Act.put,aT,aZ,aS]
 refine tk 8 rfl (by kernel_rfl) (fun _ _ _ h => h) rfl (fun w9 hS9 => by obtain ⟨k0,k1,k2,k3,k4,k5,k6,k7,k8⟩ := hS9.2.1.cells; obtain ⟨p0,p1,p2,p3,p4,p5,p6,p7,p8⟩ := hS9.2.2.cells; go_simp; (try rfl)) hH ?_
 simp only [Act.put,aT,aZ,aS]
 refine tk 10 rfl (by kernel_rfl) (fun _ _ _ h => h) rfl (fun w9 hS9 => by obtain ⟨k0,k1,k2,k3,k4,k5,k6,k7,k8⟩ := hS9.2.1.cells; obtain ⟨p0,p1,p2,p3,p4,p5,p6,p7,p8⟩ := hS9.2.2.cells; go_simp; (try rfl)) hH ?_
 simp only [Act.put,aT,aZ,aS]
 refine tk 11 rfl (by kernel_rfl) (fun _ _ _ h => h) rfl (fun w9 hS9 => by obtain ⟨k0,k1,k2,k3,k4,k5,k6,k7,k8⟩ := hS9.2.1.cells; obtain ⟨p0,p1,p2,p3,p4,p5,p6,p7,p8⟩ := hS9.2.2.cells; go_simp; (try rfl)) hH ?_
 simp only [Act.put,aT,aZ,aS]
 refine tk 12 rfl (by kernel_rfl) (fun _ _ _ h => h) rfl (fun w9 hS9 => by obtain ⟨k0,k1,k2,k3,k4,k5,k6,k7,k8⟩ := hS9.2.1.cells; obtain ⟨p0,p1,p2,p3,p4,p5,p6,p7,p8⟩ := hS9.2.2.cells; go_simp; (try rfl)) hH ?_
 simp only [Act.put,aT,aZ,aS]
 refine tk 13 rfl (by kernel_rfl) (fun _ _ _ h => h) rfl (fun w9 hS9 => by obtain ⟨k0,k1,k2,k3,k4,k5,k6,k7,k8⟩ := hS9.2.1.cells; obtain ⟨p0,p1,p2,p3,p4,p5,p6,p7,p8⟩ := hS9.2.2.cells; go_simp; (try rfl)) hH ?_
 simp only [Act.put,aT,aZ,aS]
 refine tk 15 rfl (by kernel_rfl) (fun _ _ _ h => h) rfl (fun w9 hS9 => by obtain ⟨k0,k1,k2,k3,k4,k5,k6,k7,k8⟩ := hS9.2.1.cells; obtain ⟨p0,p1,p2,p3,p4,p5,p6,p7,p8⟩ := hS9.2.2.cells; go_simp; (try rfl)) hH ?_
 simp only [Act.put,aT,aZ,aS]
 refine tk 16 rfl (by kernel_rfl) (fun _ _ _ h => h) rfl (fun w9 hS9 => by obtain ⟨k0,k1,k2,k3,k4,k5,k6,k7,k8⟩ := hS9.2.1.cells; obtain ⟨p0,p1,p2,p3,p4,p5,p6,p7,p8⟩ := hS9.2.2.cells; go_simp; (try rfl)) hH ?_
 simp only [Act.put,aT,aZ,aS]
 refine tk 17 rfl (by kernel_rfl) (fun _ _ _ h => h) rfl (fun w9 hS9 => by obtain ⟨k0,k1,k2,k3,k4,k5,k6,k7,k8⟩ := hS9.2.1.cells; obtain ⟨p0,p1,p2,p3,p4,p5,p6,p7,p8⟩ := hS9.2.2.cells; go_simp; (try rfl)) hH ?_
 simp only [Act.put,aT,aZ,aS]
 refine tk 18 rfl (by kernel_rfl) (fun _ _ _ h => h) rfl (fun w9 hS9 => by obtain ⟨k0,k1,k2,k3,k4,k5,k6,k7,k8⟩ := hS9.2.1.cells; obtain ⟨p0,p1,p2,p3,p4,p5,p6,p7,p8⟩ := hS9.2.2.cells; go_simp; (try rfl)) hH ?_
 simp only [Act.put,aT,aZ,aS]
 refine tk 20 rfl (by kernel_rfl) (fun _ _ _ h => h) rfl (fun w9 hS9 => by obtain ⟨k0,k1,k2,k3,k4,k5,k6,k7,k8⟩ := hS9.2.1.cells; obtain ⟨p0,p1,p2,p3,p4,p5,p6,p7,p8⟩ := hS9.2.2.cells; go_simp; (try rfl)) hH ?_
 simp only [Act.put,aT,aZ,aS]
 refine tk 21 rfl (by kernel_rfl) (fun _ _ _ h => h) rfl (fun w9 hS9 => by obtain ⟨k0,k1,k2,k3,k4,k5,k6,k7,k8⟩ := hS9.2.1.cells; obtain ⟨p0,p1,p2,p3,p4,p5,p6,p7,p8⟩ := hS9.2.2.cells; go_simp; (try rfl)) hH ?_
 simp only [Act.put,aT,aZ,aS]
 refine tk 22 rfl (by kernel_rfl) (fun _ _ _ h => h) rfl (fun w9 hS9 => by obtain ⟨k0,k1,k2,k3,k4,k5,k6,k7,k8⟩ := hS9.2.1.cells; obtain ⟨p0,p1,p2,p3,p4,p5,p6,p7,p8⟩ := hS9.2.2.cells; go_simp; (try rfl)) hH ?_
 simp only [Act.put,aT,aZ,aS]
 refine tk 23 rfl (by kernel_rfl) (fun _ _ _ h => h) rfl (fun w9 hS9 => by obtain ⟨k0,k1,k2,k3,k4,k5,k6,k7,k8⟩ := hS9.2.1.cells; obtain ⟨p0,p1,p2,p3,p4,p5,p6,p7,p8⟩ := hS9.2.2.cells; go_simp; (try rfl)) hH ?_
 simp only [Act.put,aT,aZ,aS]
 refine tk 25 rfl (by kernel_rfl) (fun _ _ _ h => h) rfl (fun w9 hS9 => by obtain ⟨k0,k1,k2,k3,k4,k5,k6,k7,k8⟩ := hS9.2.1.cells; obtain ⟨p0,p1,p2,p3,p4,p5,p6,p7,p8⟩ := hS9.2.2.cells; go_simp; (try rfl)) hH ?_
 simp only [Act.put,aT,aZ,aS]
 refine tk 26 rfl (by kernel_rfl) (fun _ _ _ h => h) rfl (fun w9 hS9 => by obtain ⟨k0,k1,k2,k3,k4,k5,k6,k7,k8⟩ := hS9.2.1.cells; obtain ⟨p0,p1,p2,p3,p4,p5,p6,p7,p8⟩ := hS9.2.2.cells; go_simp; (try rfl)) hH ?_
 simp only [Act.put,aT,aZ,aS]
 refine tk 27 rfl (by kernel_rfl) (fun _ _ _ h => h) rfl (fun w9 hS9 => by obtain ⟨k0,k1,k2,k3,k4,k5,k6,k7,k8⟩ := hS9.2.1.cells; obtain ⟨p0,p1,p2,p3,p4,p5,p6,p7,p8⟩ := hS9.2.2.cells; go_simp; (try rfl)) hH ?_
 simp only [Act.put,aT,aZ,aS]
 refine tk 28 rfl (by kernel_rfl) (fun _ _ _ h => h) rfl (fun w9 hS9 => by obtain ⟨k0,k1,k2,k3,k4,k5,k6,k7,k8⟩ := hS9.2.1.cells; obtain ⟨p0,p1,p2,p3,p4,p5,p6,p7,p8⟩ := hS9.2.2.cells; go_simp; (try rfl)) hH ?_
 simp only [Act.put,aT,aZ,aS]
 refine wpAnyH_calls_at 6 3 [4,9,14,19,24,29] [.int .i64 X0,.int .i64 X1,.int .i64 X2,.int .i64 X3,.int .i64 X4,.int .i64 X5] (fun xs => ⟨#[.agg #[v1,.int .i64 r1,.bool f1,.int .i64 M1,.int .i64 S1,.int .i64 m1,.int .i64 s1,.bool t1,.int .i64 T1],.agg #[v2,.int .i64 r2,.bool f2,.int .i64 M2,.int .i64 S2,.int .i64 m2,.int .i64 s2,.bool t2,.int .i64 T2],.pointer (some ⟨w.heap.size,0,none⟩),.pointer (some ⟨w.heap.size + 1,0,none⟩),.int .i64 0,.pointer (some ⟨w.heap.size,0,none⟩),v1,.pointer (some ⟨w.heap.size + 1,0,none⟩),v2,xs.getD 0 undef,.pointer (some ⟨w.heap.size,7,none⟩),.bool t1,.pointer (some ⟨w.heap.size + 1,7,none⟩),.bool t2,xs.getD 1 undef,.pointer (some ⟨w.heap.size,8,none⟩),.int .i64 T1,.pointer (some ⟨w.heap.size + 1,8,none⟩),.int .i64 T2,xs.getD 2 undef,.pointer (some ⟨w.heap.size,1,none⟩),.int .i64 r1,.pointer (some ⟨w.heap.size + 1,1,none⟩),.int .i64 r2,xs.getD 3 undef,.pointer (some ⟨w.heap.size,2,none⟩),.bool f1,.pointer (some ⟨w.heap.size + 1,2,none⟩),.bool f2,xs.getD 4 undef,.pointer (some ⟨w.heap.size,3,none⟩),.agg #[.int .i64 M1,.int .i64 S1],.pointer (some ⟨w.heap.size + 1,3,none⟩),.agg #[.int .i64 M2,.int .i64 S2],xs.getD 5 undef,undef,undef],[]⟩) (fun bs => #[true,true,true,true,bs.getD 0 true,true,true,true,true,bs.getD 1 true,true,true,true,true,bs.getD 2 true,true,true,true,true,bs.getD 3 true,true,true,true,true,bs.getD 4 true,true,true,true,true,bs.getD 5 true,false,false,false]) (Pts w w.heap.size (w.heap.size + 1) v1 v2 r1 f1 M1 S1 m1 s1 t1 T1 r2 f2 M2 S2 m2 s2 t2 T2) ?hl rfl rfl (fun _ h => h) ?hready ?hset ?hcall ?hdone hH
 case hl => kernel_rfl
 case hready =>
  intro bs hb
  obtain ⟨b0,b1,b2,b3,b4,b5,rfl⟩ := six bs hb
  cases b0 <;> cases b1 <;> cases b2 <;> cases b3 <;> cases b4 <;> cases b5 <;> kernel_rfl
 case hset =>
  intro bs k hb hk
  obtain ⟨b0,b1,b2,b3,b4,b5,rfl⟩ := six bs hb
  rcases (show k = 0 ∨ k = 1 ∨ k = 2 ∨ k = 3 ∨ k = 4 ∨ k = 5 from by omega) with rfl | rfl | rfl | rfl | rfl | rfl <;> rfl
 case hcall =>
  intro x k hx hk K w9 hJ hK
  have hJe := hJ.1
  obtain ⟨x0,x1,x2,x3,x4,x5,rfl⟩ := six x hx
  rcases (show k = 0 ∨ k = 1 ∨ k = 2 ∨ k = 3 ∨ k = 4 ∨ k = 5 from by omega) with rfl | rfl | rfl | rfl | rfl | rfl
  ·refine wpOp_step (i := 4) (o := ?o0) ?hi0 (fun K' hK' => ?_)
   case hi0 => simp only [List.getElem?_toArray,List.getElem?_cons_succ,List.getElem?_cons_zero]; rfl
   rw [if_pos (by rfl)]
   go_simp
   go_at_call 84
   (with_reducible refine (K1 _ hJe).mono ?_)
   rintro e wz ⟨rfl,xz⟩
   exact hK' _ _ (hK wz (hJ.ext xz))
  ·refine wpOp_step (i := 9) (o := ?o1) ?hi1 (fun K' hK' => ?_)
   case hi1 => simp only [List.getElem?_toArray,List.getElem?_cons_succ,List.getElem?_cons_zero]; rfl
   rw [if_pos (by rfl)]
   go_simp
   go_at_call 85
   (with_reducible refine (K2 _).mono ?_)
   rintro e wz ⟨rfl,xz⟩
   exact hK' _ _ (hK wz (hJ.ext xz))
  ·refine wpOp_step (i := 14) (o := ?o2) ?hi2 (fun K' hK' => ?_)
   case hi2 => simp only [List.getElem?_toArray,List.getElem?_cons_succ,List.getElem?_cons_zero]; rfl
   rw [if_pos (by rfl)]
   go_simp
   go_at_call 86
   (with_reducible refine (K3 _).mono ?_)
   rintro e wz ⟨rfl,xz⟩
   exact hK' _ _ (hK wz (hJ.ext xz))
  ·refine wpOp_step (i := 19) (o := ?o3) ?hi3 (fun K' hK' => ?_)
   case hi3 => simp only [List.getElem?_toArray,List.getElem?_cons_succ,List.getElem?_cons_zero]; rfl
   rw [if_pos (by rfl)]
   go_simp
   go_at_call 87
   (with_reducible refine (K4 _).mono ?_)
   rintro e wz ⟨rfl,xz⟩
   exact hK' _ _ (hK wz (hJ.ext xz))
  ·refine wpOp_step (i := 24) (o := ?o4) ?hi4 (fun K' hK' => ?_)
   case hi4 => simp only [List.getElem?_toArray,List.getElem?_cons_succ,List.getElem?_cons_zero]; rfl
   rw [if_pos (by rfl)]
   go_simp
   go_at_call 85
   (with_reducible refine (K5 _).mono ?_)
   rintro e wz ⟨rfl,xz⟩
   exact hK' _ _ (hK wz (hJ.ext xz))
  ·refine wpOp_step (i := 29) (o := ?o5) ?hi5 (fun K' hK' => ?_)
   case hi5 => simp only [List.getElem?_toArray,List.getElem?_cons_succ,List.getElem?_cons_zero]; rfl
   rw [if_pos (by rfl)]
   go_simp
   go_at_call 88
   (with_reducible refine (K6 _).mono ?_)
   rintro e wz ⟨rfl,xz⟩
   exact hK' _ _ (hK wz (hJ.ext xz))
 case hdone =>
  intro bs x w9 hb hx hJ hv
  obtain ⟨b0,b1,b2,b3,b4,b5,rfl⟩ := six bs hb
  obtain ⟨x0,x1,x2,x3,x4,x5,rfl⟩ := six x hx
  obtain ⟨e0,y0⟩ := hv 0 (by omega)
  obtain ⟨e1,y1⟩ := hv 1 (by omega)
  obtain ⟨e2,y2⟩ := hv 2 (by omega)
  obtain ⟨e3,y3⟩ := hv 3 (by omega)
  obtain ⟨e4,y4⟩ := hv 4 (by omega)
  obtain ⟨e5,y5⟩ := hv 5 (by omega)
  replace e0 : b0 = true := e0
  replace e1 : b1 = true := e1
  replace e2 : b2 = true := e2
  replace e3 : b3 = true := e3
  replace e4 : b4 = true := e4
  replace e5 : b5 = true := e5
  replace y0 : x0 = .int .i64 X0 := y0
  replace y1 : x1 = .int .i64 X1 := y1
  replace y2 : x2 = .int .i64 X2 := y2
  replace y3 : x3 = .int .i64 X3 := y3
  replace y4 : x4 = .int .i64 X4 := y4
  replace y5 : x5 = .int .i64 X5 := y5
  subst e0 e1 e2 e3 e4 e5 y0 y1 y2 y3 y4 y5
  clear hv hb hx K1 K2 K3 K4 K5 K6 hH
  refine wR (rs := [30]) (by kernel_rfl) (by simp) (aR rfl (fun K hK => ?_) aN)
  rw [if_pos (by rfl)]
  go_simp
  refine hK.out _ _ (hJ.ext ((Ext.refl _).alloc _)) (fun hH => ?_)
  clear hK K
  simp only [aT,aZ,aS]
  refine wR (rs := [31]) (by kernel_rfl) (by simp) (aR rfl (fun K hK => ?_) aN)
  rw [if_pos (by rfl)]
  go_simp
  go_at_call 83
  (with_reducible refine (O _ _ ?h).mono ?_)
  case h => exact IntsAt.mk [X0,X1,X2,X3,X4,X5] (heap_last _ _)
  rintro e wz ⟨rfl,xz⟩
  refine hK.out _ _ (Pts.ext hH xz) (fun hHeld2 => ?_)
  clear hK K
  simp only [aT,aZ,aS]
  refine wR (rs := [32]) (by kernel_rfl) (by simp) (aR rfl (fun K hK => ?_) aN)
  rw [if_pos (by rfl)]
  go_simp
  refine hK.out _ _ hHeld2 (fun hHeld3 => ?_)
  clear hK K
  refine wpAnyH_done (by kernel_rfl) ?_ _
  have hfin := hHeld3.1
  go_wp2_with fail
  go_ret
  exact ⟨rfl,hfin⟩
end Go.Proofs.YtjjnmefihdjglaaGreat
