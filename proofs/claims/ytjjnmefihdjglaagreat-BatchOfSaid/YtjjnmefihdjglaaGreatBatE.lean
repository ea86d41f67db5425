import Derived.Test.YtjjnmefihdjglaaGreatBatD
namespace Go.Proofs.YtjjnmefihdjglaaGreat
open Go.RowKit
theorem OwnF.sm {base : Nat} {v : Value} {L : List FamD} {W : World} (_h : OwnF base v L W) {l : List FamY} (hb : sortB l = some (L.map FamD.y)) (hs : ∀ f ∈ l, f.Sm) : ∀ f ∈ L, f.y.Sm := by
 intro f hf
 unfold sortB at hb
 cases hm : srts l with
 | none => rw [hm] at hb; cases hb
 | some M =>
   rw [hm, Option.bind_some] at hb
   have h1 := (sortN_is hb).1
   exact srts_sm hm hs _ (h1.subset (List.mem_map_of_mem hf))
theorem sortB_len {l N : List FamY} (hb : sortB l = some N) : N.length = l.length := by
 unfold sortB at hb
 cases hm : srts l with
 | none => rw [hm] at hb; cases hb
 | some M =>
   rw [hm, Option.bind_some] at hb
   rw [(sortN_is hb).1.length_eq, srts_len hm]
def OfTold (tn : ByteArray) (l : List FamY) (base : Nat) (e : Ending) (w' : World) : Prop :=
 (∃ v L, sortB l = some (L.map FamD.y) ∧ checkB tn (L.map FamD.y) = 0 ∧ e = .returned (.tuple #[.agg #[.string tn, v], .bool true]) ∧ OwnF base v L w') ∨
 ((∀ N, sortB l = some N → checkB tn N ≠ 0) ∧ e = .returned (.tuple #[.agg #[.string ⟨#[]⟩, .slice none 0 0], .bool false]))
set_option maxHeartbeats 8000000 in
set_option maxRecDepth 100000 in
theorem batOf_any (tn : ByteArray) (a : Option Addr) (c : Nat) (l : List FamD) (w : World) (hl : l.length ≤ 1000) (ht : tn.size ≤ 1000000) (hA : FamsA a l w) (hs : ∀ f ∈ l, f.y.Sm) :
  Calls Tryz.prog 18 #[.string tn, .slice a l.length c] w fun e w' => OfTold tn (l.map FamD.y) w.heap.size e w' ∧ Ext w w' := by
 obtain ⟨W, hW⟩ : ∃ W, w.alloc (.cells #[.string ⟨#[]⟩, .slice none 0 0] 27) = W := ⟨_, rfl⟩
 have x1 : Ext w W := by rw [← hW]; exact (Ext.refl w).alloc _
 have g1 : BatIn w.heap.size ⟨#[]⟩ (.slice none 0 0) W := by rw [← hW]; exact heap_last _ _
 have hWz : w.heap.size + 1 ≤ W.heap.size := by rw [← hW]; simp
 replace hW := Lib.hid hW
 have SO := batSort_any tn a c l W hl (hA.ext x1) hs
 have hs' : ∀ f ∈ l.map FamD.y, f.Sm := fun f hf => by obtain ⟨g, hg, rfl⟩ := List.mem_map.1 hf; exact hs g hg
 have hll : (l.map FamD.y).length ≤ 1000 := by rw [List.length_map]; exact hl
 clear hA hs
 go_enter Tryz.func18, Tryz.ntmps18
 go_wp2_with fail
 rw [hW.out]
 (with_reducible refine SO.mono ?_)
 rintro e w2 ⟨hst, x2⟩
 clear SO hW
 have hz0 : w.heap.size ≤ w.heap.size := Nat.le_refl _
 rcases hst with ⟨v, L, hb, rfl, hO⟩ | ⟨hb, rfl⟩
 ·obtain ⟨av, cv, rfl, hF⟩ := hO.fams
  have hLl : L.length ≤ 1000 := by have := sortB_len hb; rw [List.length_map] at this; omega
  have CK := fun W (x : Ext w2 W) => Check_any tn av cv L W (by omega) ht (hF.ext x) (hO.sm hb hs')
  obtain ⟨r, hr⟩ : ∃ r, checkB tn (L.map FamD.y) = r := ⟨_, rfl⟩
  rw [hr] at CK
  have xa := (Ext.refl w2).alloc (.cells #[.string tn, .slice av L.length cv] 27)
  have gB : BatIn w2.heap.size tn (.slice av L.length cv) (w2.alloc (.cells #[.string tn, .slice av L.length cv] 27)) := heap_last _ _
  obtain ⟨d0, d1⟩ := gB.cells
  replace hO := hO.ext xa
  replace g1 := g1.ext (x2.trans xa)
  have x3 := (x1.trans x2).trans xa
  replace hb := Lib.hid hb
  clear hF x2
  by_cases h0 : r = 0
  ·subst h0
   replace hr := Lib.hid hr
   go_wp2_with fail
   (with_reducible refine (CK _ xa).mono ?_)
   rintro e w3 ⟨rfl, x4⟩
   replace hO := hO.ext x4
   replace g1 := g1.ext x4
   replace gB := gB.ext x4
   clear d0 d1
   obtain ⟨d0, d1⟩ := gB.cells
   obtain ⟨e0, e1⟩ := g1.cells
   have fr := fun o => g1.free o
   clear g1 gB CK
   go_wp2_with fail
   refine bodyPost_ret (v := .tuple #[.agg #[.string tn, .slice av L.length cv], .bool true]) ?_ rfl ⟨.inl ⟨_, L, hb.out, hr.out, rfl, ((hO.setC w.heap.size 0 _ (by omega)).setC w.heap.size 1 _ (by omega)).mono (by omega)⟩, ((x3.trans x4).setC w.heap.size 0 _ hz0).setC w.heap.size 1 _ hz0⟩
   simp [results, Tryz.results18, go_sem, e0, e1]
  ·replace hr := Lib.hid hr
   go_wp2_with fail
   (with_reducible refine (CK _ xa).mono ?_)
   rintro e w3 ⟨rfl, x4⟩
   replace g1 := g1.ext x4
   clear d0 d1
   obtain ⟨e0, e1⟩ := g1.cells
   have fr := fun o => g1.free o
   clear g1 gB CK hO
   go_wp2_with fail
   refine bodyPost_ret (v := .tuple #[.agg #[.string ⟨#[]⟩, .slice none 0 0], .bool false]) ?_ rfl ⟨.inr ⟨fun N hN => ?_, rfl⟩, ((x3.trans x4).setC w.heap.size 0 _ hz0).setC w.heap.size 1 _ hz0⟩
   ·simp [results, Tryz.results18, go_sem, e0, e1]
   ·rw [hb.out] at hN
    injection hN with hN
    rw [← hN, hr.out]
    exact h0
 ·have xa := (Ext.refl w2).alloc (.cells #[.string ⟨#[]⟩, .slice none 0 0] 27)
  replace g1 := g1.ext (x2.trans xa)
  have x3 := (x1.trans x2).trans xa
  obtain ⟨e0, e1⟩ := g1.cells
  have fr := fun o => g1.free o
  replace hb := Lib.hid hb
  clear g1
  go_wp2_with fail
  refine bodyPost_ret (v := .tuple #[.agg #[.string ⟨#[]⟩, .slice none 0 0], .bool false]) ?_ rfl ⟨.inr ⟨fun N hN => ?_, rfl⟩, (x3.setC w.heap.size 0 _ hz0).setC w.heap.size 1 _ hz0⟩
  ·simp [results, Tryz.results18, go_sem, e0, e1]
  ·rw [hb.out] at hN; cases hN
end Go.Proofs.YtjjnmefihdjglaaGreat
