import Derived.Test.YtjjnmefihdjglaaGreatSrE
import Derived.Test.YtjjnmefihdjglaaGreatSrN
import Derived.Test.YtjjnmefihdjglaaGreatSortP
namespace Go.Proofs.YtjjnmefihdjglaaGreat
open Go.RowKit
theorem tyLab : TyE 36 69 2 32 := TyE.mk' Tryz.underlying36 (by kernel_rfl)
theorem tyPt : TyE 33 40 9 88 := TyE.mk' Tryz.underlying33 (by kernel_rfl)
theorem tyFam : TyE 25 35 5 80 := TyE.mk' Tryz.underlying25 (by kernel_rfl)
def labC (x : ByteArray × ByteArray) : List Value := [.string x.1, .string x.2]
def lab0 : ByteArray × ByteArray := (ByteArray.empty, ByteArray.empty)
set_option maxHeartbeats 4000000 in
set_option maxRecDepth 100000 in
theorem clone_any (a : Option Addr) (c : Nat) (l : List (ByteArray × ByteArray)) (w : World) (hl : l.length ≤ 1000) (hA : LabA a l w) :
  Calls Tryz.prog 90 #[.slice a l.length c] w fun e w' => (∃ a' c', e = .returned (.slice a' l.length c') ∧ LabA a' l w' ∧ (∀ x, a' = some x → w.heap.size ≤ x.block ∧ x.block < w'.heap.size)) ∧ Ext w w' := by
 cases a with
 | none =>
   have h0 : l = [] := by
    cases l with
    | nil => rfl
    | cons x l => obtain ⟨b, o, h, _⟩ := hA (by simp); cases h
   subst h0
   have hq : ∀ w, (binOp .eql 36 (.slice none 0 c) (.slice none 0 0)).run Tryz.prog w = .ok (.bool true) w := fun w => Lib.run_eql_slice_nil w _ _ none 0 c 0 0 Tryz.underlying36
   go_enter Tryz.func90, Tryz.ntmps90
   go_wp2_with fail
   go_ret
   exact ⟨⟨none, 0, rfl, LabA.nil _ _, fun x h => by cases h⟩, Ext.refl _⟩
 | some ad =>
   have hq : ∀ w, (binOp .eql 36 (.slice (some ad) l.length c) (.slice none 0 0)).run Tryz.prog w = .ok (.bool false) w := fun w => Lib.run_eql_slice_nil w _ _ (some ad) l.length c 0 0 Tryz.underlying36
   go_enter Tryz.func90, Tryz.ntmps90
   have x0 : Ext w (w.alloc (.cells #[] 69)) := (Ext.refl w).alloc _
   have ho : OwnR 2 69 labC w.heap.size (.slice (some ⟨w.heap.size, 0, none⟩) 0 0) 0 (fun _ => lab0) (w.alloc (.cells #[] 69)) :=
    .inr ⟨w.heap.size, 0, rfl, Nat.le_refl _, Nat.le_refl _, #[], heap_last _ _, rfl, fun i hi => absurd hi (by omega)⟩
   have hc : ∀ i, i < l.length → ∀ j, j < 2 → (w.alloc (.cells #[] 69)).cell? (ad.add (i * 2 + j)) = (labC (l.getD i lab0))[j]? := by
    intro i hi j hj
    obtain ⟨b, o, e, hb, hA2⟩ := (hA.ext x0) (by omega)
    injection e with e
    subst e
    obtain ⟨q0, q1⟩ := hA2 i hi
    rw [Addr.add_lit, show l.getD i lab0 = l[i] from by simp [hi]]
    match j, hj with
    | 0, _ => exact q0
    | 1, _ => rw [← Nat.add_assoc]; exact q1
   obtain ⟨W, hW⟩ : ∃ W, w.alloc (.cells #[] 69) = W := ⟨_, rfl⟩
   have hsz : w.heap.size < W.heap.size := by rw [← hW]; simp
   rw [hW] at x0 ho hc
   replace hW := Lib.hid hW
   go_wp2_with (at_builtin; (try rw [hW.out]); refine wpList_append_structs _ rfl _ _ rfl tyLab (fun _ => rfl) (fun x u hu => ?c1) (by decide) w.heap.size _ 0 (fun _ => lab0) rfl ho ?c2 ad l.length c (fun i => l.getD i lab0) rfl hc ?c3 ?c4 ?c5 ?_)
   case c1 => simp [labC] at hu; rcases hu with rfl | rfl <;> rfl
   case c2 => exact x0.size
   case c3 => omega
   case c4 => omega
   case c5 => exact .inl (show Value.slice (some ⟨w.heap.size, 0, none⟩) 0 0 ≠ .slice none 0 0 from fun h => by cases h)
   intro v' w' h1 h2 h3
   go_wp2_with fail
   go_ret
   have h4 := h1.form
   obtain ⟨a', c', rfl⟩ := h4
   have hx : Ext w w' := grown_ext' x0 h2 (Nat.le_refl _) (fun k hk => by cases hk; exact Nat.le_refl _)
   refine ⟨⟨a', c', rfl, fun h0 => ?_, fun x hx => ?_⟩, hx⟩
   ·obtain ⟨g, cap, e, hg, hr⟩ := h1.row h0
    injection e with e _ _
    subst e
    refine ⟨g, 0, rfl, hr.lt, fun i hi => ?_⟩
    have e0 := hr.cell i 0 (.string l[i].1) hi (by decide) (by simp [joinF, labC, hi])
    have e1 := hr.cell i 1 (.string l[i].2) hi (by decide) (by simp [joinF, labC, hi])
    rw [Nat.zero_add]
    exact ⟨e0, e1⟩
   ·subst hx
    exact h1.lt _ rfl
theorem PtD.Ok.grown {p : PtD} {w w' : World} {row : Option Nat} (h : p.Ok w) (g : w.grownBy w' row) (hr : ∀ x, p.a = some x → ∀ k, row = some k → x.block ≠ k) : p.Ok w' := by
 refine ⟨h.1, fun h0 => ?_, h.2.2⟩
 obtain ⟨b, o, e, hb, hl⟩ := h.2.1 h0
 have hn := hr _ e
 exact ⟨b, o, e, Nat.lt_of_lt_of_le hb g.size, fun i hi => ⟨(grown_cell g (p := ⟨b, o + i * 2, none⟩) hb hn).trans (hl i hi).1, (grown_cell g (p := ⟨b, o + i * 2 + 1, none⟩) hb hn).trans (hl i hi).2⟩⟩
theorem PtIn.free {b : Nat} {v : Value} {r : Int} {f : Bool} {M S m s : Int} {t : Bool} {T : Int} {w : World} (h : PtIn b v r f M S m s t T w) (o : Nat) : w.frozen? ⟨b, o, none⟩ = false := by
 unfold PtIn at h
 unfold World.frozen?
 rw [h]; simp
theorem LabA.setC {a : Option Addr} {l : List (ByteArray × ByteArray)} {W : World} (h : LabA a l W) (b o : Nat) (v : Value) (hb : ∀ x, a = some x → b ≠ x.block) : LabA a l (W.setCell ⟨b, o, none⟩ v) := fun h0 => by
 obtain ⟨b1, o1, e, h1, h2⟩ := h h0
 have hn := hb _ e
 exact ⟨b1, o1, e, by rw [World.size_setCell]; exact h1, fun i hi => ⟨(World.cell?_setCell_far _ ⟨b, o, none⟩ ⟨b1, o1 + i * 2, none⟩ v hn).trans (h2 i hi).1, (World.cell?_setCell_far _ ⟨b, o, none⟩ ⟨b1, o1 + i * 2 + 1, none⟩ v hn).trans (h2 i hi).2⟩⟩
theorem Ext.setC {w W : World} (h : Ext w W) (b o : Nat) (v : Value) (hb : w.heap.size ≤ b) : Ext w (W.setCell ⟨b, o, none⟩ v) :=
 ((ExtB.refl b W).setCell o v).toExt h hb
set_option maxHeartbeats 4000000 in
set_option maxRecDepth 100000 in
theorem ownPoint_any (p : PtD) (w : World) (hp : p.Ok w) (hl : p.l.length ≤ 1000) :
  Calls Tryz.prog 58 #[p.v] w fun e w' => (∃ q : PtD, e = .returned q.v ∧ q.y = p.y ∧ q.Ok w' ∧ (∀ x, q.a = some x → w.heap.size ≤ x.block ∧ x.block < w'.heap.size)) ∧ Ext w w' := by
 obtain ⟨a, c, l, r, f, M, S, m, s, t, T⟩ := p
 obtain ⟨k1, k2, k3⟩ := hp
 dsimp only at k1 k2 k3 hl
 unfold PtD.v ptV
 dsimp only
 have CL := fun W (x : Ext w W) => clone_any a c l W hl (k2.ext x)
 obtain ⟨V, hV⟩ : ∃ V, Value.slice a l.length c = V := ⟨_, rfl⟩
 rw [hV] at CL ⊢
 obtain ⟨W, hW⟩ : ∃ W, (w.alloc (.cells #[V, .int .i64 r, .bool f, .int .i64 M, .int .i64 S, .int .i64 m, .int .i64 s, .bool t, .int .i64 T] 40)).alloc (.cells #[.slice none 0 0, .int .i64 0, .bool false, .int .i64 0, .int .i64 0, .int .i64 0, .int .i64 0, .bool false, .int .i64 0] 40) = W := ⟨_, rfl⟩
 have x1 : Ext w W := by rw [← hW]; exact ((Ext.refl w).alloc _).alloc _
 have h1 : PtIn w.heap.size V r f M S m s t T W := by rw [← hW]; exact heap_at2a _ _ _
 have h2 : PtIn (w.heap.size + 1) (.slice none 0 0) 0 false 0 0 0 0 false 0 W := by rw [← hW]; exact heap_at2b _ _ _
 have hWz : w.heap.size + 2 ≤ W.heap.size := by rw [← hW]; simp
 replace hW := Lib.hid hW
 go_enter Tryz.func58, Tryz.ntmps58
 go_wp2_with fail
 rw [hW.out]
 (with_reducible refine (CL _ x1).mono ?_)
 rintro e w2 ⟨⟨a', c', rfl, hA', hB'⟩, x2⟩
 replace h1 := h1.ext x2
 replace h2 := h2.ext x2
 have x3 := x1.trans x2
 obtain ⟨c0, c1, c2, c3, c4, c5, c6, c7, c8⟩ := h1.cells
 obtain ⟨d0, d1, d2, d3, d4, d5, d6, d7, d8⟩ := h2.cells
 have fr1 := fun o => h1.free o
 have fr2 := fun o => h2.free o
 have hbz : w.heap.size ≤ W.heap.size := x1.size
 clear h1 h2
 go_wp2_with fail
 have hz1 : w.heap.size ≤ w.heap.size + 1 := Nat.le_succ _
 have XF := ((((((((((x3.setC w.heap.size 0 (.slice a' l.length c') (Nat.le_refl _)).setC (w.heap.size + 1) 0 (.slice a' l.length c') hz1).setC (w.heap.size + 1) 1 (.int .i64 r) hz1).setC (w.heap.size + 1) 2 (.bool f) hz1).setC (w.heap.size + 1) 3 (.int .i64 M) hz1).setC (w.heap.size + 1) 4 (.int .i64 S) hz1).setC (w.heap.size + 1) 5 (.int .i64 m) hz1).setC (w.heap.size + 1) 6 (.int .i64 s) hz1).setC (w.heap.size + 1) 7 (.bool t) hz1).setC (w.heap.size + 1) 8 (.int .i64 T) hz1)
 refine bodyPost_ret (v := .agg #[.slice a' l.length c', .int .i64 r, .bool f, .int .i64 M, .int .i64 S, .int .i64 m, .int .i64 s, .bool t, .int .i64 T]) ?_ rfl ⟨⟨⟨a', c', l, r, f, M, S, m, s, t, T⟩, rfl, rfl, ⟨k1, ?_, k3⟩, ?_⟩, XF⟩
 ·simp [results, Tryz.results58, go_sem, d0, d1, d2, d3, d4, d5, d6, d7, d8]
 ·have n1 : ∀ x, a' = some x → w.heap.size ≠ x.block := fun x hx => by have := hB' x hx; omega
  have n2 : ∀ x, a' = some x → w.heap.size + 1 ≠ x.block := fun x hx => by have := hB' x hx; omega
  exact (((((((((hA'.setC _ 0 _ n1).setC _ 0 _ n2).setC _ 1 _ n2).setC _ 2 _ n2).setC _ 3 _ n2).setC _ 4 _ n2).setC _ 5 _ n2).setC _ 6 _ n2).setC _ 7 _ n2).setC _ 8 _ n2
 ·intro x hx
  have := hB' x hx
  refine ⟨by omega, ?_⟩
  simp only [World.size_setCell]
  exact this.2
end Go.Proofs.YtjjnmefihdjglaaGreat
