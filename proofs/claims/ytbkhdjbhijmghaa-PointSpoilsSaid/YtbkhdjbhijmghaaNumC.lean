/- The walks of sum.counted, number.compare. -/
import Derived.Test.YtbkhdjbhijmghaaNumB
namespace Go.Proofs.Ytbkhdjbhijmghaa
open Go.RowKit

theorem heap_at2a (w : World) (o p : Obj) : ((w.alloc o).alloc p).heap[w.heap.size]? = some o := (Below.heap_alloc _ _ _ (by rw [heap_size_alloc]; omega)).trans (heap_last _ _)
theorem heap_at2b (w : World) (o p : Obj) : ((w.alloc o).alloc p).heap[w.heap.size + 1]? = some p := by rw [← heap_size_alloc w o]; exact heap_last _ _
theorem heap_at3a (w : World) (o p q : Obj) : (((w.alloc o).alloc p).alloc q).heap[w.heap.size]? = some o := (Below.heap_alloc _ _ _ (by rw [heap_size_alloc, heap_size_alloc]; omega)).trans (heap_at2a _ _ _)
theorem heap_at3b (w : World) (o p q : Obj) : (((w.alloc o).alloc p).alloc q).heap[w.heap.size + 1]? = some p := (Below.heap_alloc _ _ _ (by rw [heap_size_alloc, heap_size_alloc]; omega)).trans (heap_at2b _ _ _)
theorem heap_at3c (w : World) (o p q : Obj) : (((w.alloc o).alloc p).alloc q).heap[w.heap.size + 2]? = some q := by
  have := heap_last ((w.alloc o).alloc p) q
  rwa [heap_size_alloc, heap_size_alloc] at this

/-- A decimal in memory, in block b. -/
def DecIn (b : Nat) (M S : Int) (w : World) : Prop := w.heap[b]? = some (.cells #[.int .i64 M, .int .i64 S] 24 (0, 0))
theorem DecIn.ext {b : Nat} {M S : Int} {w w' : World} (h : DecIn b M S w) (hk : Ext w w') : DecIn b M S w' := (hk.heap (Array.getElem?_eq_some_iff.1 h).1).trans h
theorem DecIn.cells {b : Nat} {M S : Int} {w : World} (h : DecIn b M S w) :
    w.cell? ⟨b, 0, none⟩ = some (.int .i64 M) ∧ w.cell? ⟨b, 1, none⟩ = some (.int .i64 S) := by
  refine ⟨?_, ?_⟩ <;> (rw [Lib.cell_of_heap h]; rfl)
theorem DecIn.free {b : Nat} {M S : Int} {w : World} (h : DecIn b M S w) :
    w.frozen? ⟨b, 0, none⟩ = false ∧ w.frozen? ⟨b, 1, none⟩ = false := ⟨Lib.frozen_of_heap h 0, Lib.frozen_of_heap h 1⟩
/-- A decimal stored. -/
def setDec (w : World) (b : Nat) (M S : Int) : World := (w.setCell ⟨b, 0, none⟩ (.int .i64 M)).setCell ⟨b, 1, none⟩ (.int .i64 S)
theorem DecIn.stored {b : Nat} {M S : Int} {w : World} (h : DecIn b M S w) (M' S' : Int) : DecIn b M' S' (setDec w b M' S') := by
  unfold DecIn at *
  simp [setDec, World.setCell, Array.getElem?_modify, h]
theorem heap_setDec (w : World) (b k : Nat) (M S : Int) (h : k ≠ b) : (setDec w b M S).heap[k]? = w.heap[k]? := by
  unfold setDec
  rw [Below.heap_setCell _ _ _ _ h, Below.heap_setCell _ _ _ _ h]
theorem ext_setDec {a w : World} (h : Ext a w) {b : Nat} (hb : a.heap.size ≤ b) (M S : Int) : Ext a (setDec w b M S) :=
  ext_setCell (ext_setCell h hb _) hb _

/-- A number in memory, in block b. -/
def NumIn (b : Nat) (n : Bool) (A : Nat) (s : Int) (w : World) : Prop := w.heap[b]? = some (.cells #[.bool n, .int .u64 (wd A 0 : Int), .int .u64 (wd A 1 : Int), .int .u64 (wd A 2 : Int), .int .u64 (wd A 3 : Int), .int .i64 s] 60 (0, 0))
theorem NumIn.ext {b : Nat} {n : Bool} {A : Nat} {s : Int} {w w' : World} (h : NumIn b n A s w) (hk : Ext w w') : NumIn b n A s w' := (hk.heap (Array.getElem?_eq_some_iff.1 h).1).trans h
theorem NumIn.cells {b : Nat} {n : Bool} {A : Nat} {s : Int} {w : World} (h : NumIn b n A s w) :
    w.cell? ⟨b, 0, none⟩ = some (.bool n) ∧ w.cell? ⟨b, 1, none⟩ = some (.int .u64 (wd A 0 : Int)) ∧ w.cell? ⟨b, 2, none⟩ = some (.int .u64 (wd A 1 : Int)) ∧ w.cell? ⟨b, 3, none⟩ = some (.int .u64 (wd A 2 : Int)) ∧ w.cell? ⟨b, 4, none⟩ = some (.int .u64 (wd A 3 : Int)) ∧ w.cell? ⟨b, 5, none⟩ = some (.int .i64 s) := by
  refine ⟨?_, ?_, ?_, ?_, ?_, ?_⟩ <;> (rw [Lib.cell_of_heap h]; rfl)
theorem NumIn.free {b : Nat} {n : Bool} {A : Nat} {s : Int} {w : World} (h : NumIn b n A s w) :
    w.frozen? ⟨b, 0, none⟩ = false ∧ w.frozen? ⟨b, 1, none⟩ = false ∧ w.frozen? ⟨b, 2, none⟩ = false ∧ w.frozen? ⟨b, 3, none⟩ = false ∧ w.frozen? ⟨b, 4, none⟩ = false ∧ w.frozen? ⟨b, 5, none⟩ = false :=
  ⟨Lib.frozen_of_heap h 0, Lib.frozen_of_heap h 1, Lib.frozen_of_heap h 2, Lib.frozen_of_heap h 3, Lib.frozen_of_heap h 4, Lib.frozen_of_heap h 5⟩

set_option maxHeartbeats 2000000 in
set_option maxRecDepth 100000 in
theorem counted_any (M S : Int) (w : World) (hM : I64 M) (hS : I64 S) :
    Calls Try.prog 35 #[decV M S] w fun e w' => e = .returned (decV (if goodB M S then M else 0) (if goodB M S then S else 0)) ∧ Ext w w' := by
  have C := fun w => Good_any M S w hM hS
  unfold decV at *
  clear hM hS
  have hx : Ext w ((w.alloc (.cells #[.int .i64 M, .int .i64 S] 24)).alloc (.cells #[.int .i64 0, .int .i64 0] 24)) := ((Ext.refl _).alloc _).alloc _
  have h1 : DecIn w.heap.size M S ((w.alloc (.cells #[.int .i64 M, .int .i64 S] 24)).alloc (.cells #[.int .i64 0, .int .i64 0] 24)) := heap_at2a _ _ _
  have h2 : DecIn (w.heap.size + 1) 0 0 ((w.alloc (.cells #[.int .i64 M, .int .i64 S] 24)).alloc (.cells #[.int .i64 0, .int .i64 0] 24)) := heap_at2b _ _ _
  generalize hg : goodB M S = g at *
  clear hg
  cases g
  · go_enter Try.func35, Try.ntmps35
    go_wp2_with fail
    refine (C _).mono ?_
    rintro e w1 ⟨rfl, x1⟩
    replace h2 := h2.ext x1
    obtain ⟨d0, d1⟩ := h2.cells
    obtain ⟨f0, f1⟩ := h2.free
    clear h1
    go_wp2_with fail
    refine bodyPost_ret (v := decV 0 0) ?_ rfl ⟨rfl, ext_setDec (hx.trans x1) (Nat.le_succ _) _ _⟩
    obtain ⟨e0, e1⟩ := (h2.stored 0 0).cells
    change (results Try.f35 _).run Try.prog (setDec w1 (w.heap.size + 1) 0 0) = .ok _ (setDec w1 (w.heap.size + 1) 0 0)
    generalize setDec w1 (w.heap.size + 1) 0 0 = W at *
    simp [results, Try.results35, go_sem, e0, e1, decV]
  · rw [if_pos rfl, if_pos rfl]
    go_enter Try.func35, Try.ntmps35
    go_wp2_with fail
    refine (C _).mono ?_
    rintro e w1 ⟨rfl, x1⟩
    replace h1 := h1.ext x1
    replace h2 := h2.ext x1
    obtain ⟨c0, c1⟩ := h1.cells
    obtain ⟨d0, d1⟩ := h2.cells
    obtain ⟨f0, f1⟩ := h2.free
    go_wp2_with fail
    refine bodyPost_ret (v := decV M S) ?_ rfl ⟨rfl, ext_setDec (hx.trans x1) (Nat.le_succ _) _ _⟩
    obtain ⟨e0, e1⟩ := (h2.stored M S).cells
    change (results Try.f35 _).run Try.prog (setDec w1 (w.heap.size + 1) M S) = .ok _ (setDec w1 (w.heap.size + 1) M S)
    generalize setDec w1 (w.heap.size + 1) M S = W at *
    simp [results, Try.results35, go_sem, e0, e1, decV]

/-- What compare tells of two numbers with a sign. -/
def ncmp (n : Bool) (A : Nat) (m : Bool) (B : Nat) : Int := if n then (if m then cmpN B A else -1) else (if m then 1 else cmpN A B)

set_option maxHeartbeats 2000000 in
set_option maxRecDepth 100000 in
theorem ncompare_any (n m : Bool) (A B : Nat) (s : Int) (w : World) (hA : A < W256) (hB : B < W256) :
    Calls Try.prog 37 #[numV n A s, numV m B s] w fun e w' => e = .returned (.int .i64 (ncmp n A m B)) ∧ Ext w w' := by
  have C1 := fun w => compare_any A B w hA hB
  have C2 := fun w => compare_any B A w hB hA
  unfold numV wideV at *
  clear hA hB
  cases n
  · cases m
    · go_enter Try.func37, Try.ntmps37
      go_wp2_with fail
      refine (C1 _).mono ?_
      rintro e w1 ⟨rfl, x1⟩
      go_wp2_with fail
      go_ret
      exact ⟨rfl, (((Ext.refl _).alloc _).alloc _).trans x1⟩
    · go_enter Try.func37, Try.ntmps37
      go_wp2_with fail
      go_ret
      exact ⟨rfl, ((Ext.refl _).alloc _).alloc _⟩
  · cases m
    · go_enter Try.func37, Try.ntmps37
      go_wp2_with fail
      go_ret
      exact ⟨rfl, ((Ext.refl _).alloc _).alloc _⟩
    · go_enter Try.func37, Try.ntmps37
      go_wp2_with fail
      refine (C2 _).mono ?_
      rintro e w1 ⟨rfl, x1⟩
      go_wp2_with fail
      go_ret
      exact ⟨rfl, (((Ext.refl _).alloc _).alloc _).trans x1⟩
end Go.Proofs.Ytbkhdjbhijmghaa
