import Derived.Test.YtjjnmefihdjglaaGreatFamS
namespace Go.Proofs.YtjjnmefihdjglaaGreat
open Go.RowKit
theorem FamIn.grown {b : Nat} {nm : ByteArray} {k : Int} {un he : ByteArray} {pv : Value} {w w' : World} {r : Option Nat} (h : FamIn b nm k un he pv w) (g : w.grownBy w' r) (hr : ∀ x, r = some x → b ≠ x) : FamIn b nm k un he pv w' :=
 (g.block b (Array.getElem?_eq_some_iff.1 h).1 (fun e => hr _ e.symm rfl)).trans h
theorem FamIn.stored {b : Nat} {nm : ByteArray} {k : Int} {un he : ByteArray} {pv : Value} {w : World} (h : FamIn b nm k un he pv w) (nm' : ByteArray) (k' : Int) (un' he' : ByteArray) (pv' : Value) :
  FamIn b nm' k' un' he' pv' (((((w.setCell ⟨b, 0, none⟩ (.string nm')).setCell ⟨b, 1, none⟩ (.int .i64 k')).setCell ⟨b, 2, none⟩ (.string un')).setCell ⟨b, 3, none⟩ (.string he')).setCell ⟨b, 4, none⟩ pv') := by
 have e := heap_setCells b [.string nm', .int .i64 k', .string un', .string he', pv'] 0 w _ _ _ h
 rw [show setL #[.string nm, .int .i64 k, .string un, .string he, pv] 0 [.string nm', .int .i64 k', .string un', .string he', pv'] = #[.string nm', .int .i64 k', .string un', .string he', pv'] from by simp [setL]] at e
 simp only [World.setCells] at e
 exact e
theorem FamIn.setC {b : Nat} {nm : ByteArray} {k : Int} {un he : ByteArray} {pv : Value} {w : World} (h : FamIn b nm k un he pv w) (b' o : Nat) (u : Value) (hb : b ≠ b') : FamIn b nm k un he pv (w.setCell ⟨b', o, none⟩ u) := by
 unfold FamIn World.setCell
 simp only [Array.getElem?_modify]
 rw [if_neg (fun e => hb e.symm)]
 exact h
theorem OwnP.set5 {base : Nat} {v : Value} {L : List PtD} {W : World} (h : OwnP base v L W) (b : Nat) (hb : b < base) (u0 u1 u2 u3 u4 : Value) :
  OwnP base v L (((((W.setCell ⟨b, 0, none⟩ u0).setCell ⟨b, 1, none⟩ u1).setCell ⟨b, 2, none⟩ u2).setCell ⟨b, 3, none⟩ u3).setCell ⟨b, 4, none⟩ u4) :=
 ((((h.setC b 0 u0 hb).setC b 1 u1 hb).setC b 2 u2 hb).setC b 3 u3 hb).setC b 4 u4 hb
theorem Ext.set5 {w W : World} (h : Ext w W) (b : Nat) (hb : w.heap.size ≤ b) (u0 u1 u2 u3 u4 : Value) :
  Ext w (((((W.setCell ⟨b, 0, none⟩ u0).setCell ⟨b, 1, none⟩ u1).setCell ⟨b, 2, none⟩ u2).setCell ⟨b, 3, none⟩ u3).setCell ⟨b, 4, none⟩ u4) :=
 ((((h.setC b 0 u0 hb).setC b 1 u1 hb).setC b 2 u2 hb).setC b 3 u3 hb).setC b 4 u4 hb
def SortTold (nm : ByteArray) (k : Int) (un he : ByteArray) (l : List PtD) (base : Nat) (e : Ending) (w' : World) : Prop :=
 (∃ v L, (L.map PtD.y).Perm (l.map PtD.y) ∧ Ris cmpY (L.map PtD.y) ∧ e = .returned (.tuple #[.agg #[.string nm, .int .i64 k, .string un, .string he, v], .bool true]) ∧ OwnP base v L w') ∨
 ((∀ M : List PtY, M.Perm (l.map PtD.y) → ¬ Ris cmpY M) ∧ e = .returned (.tuple #[.agg #[.string ⟨#[]⟩, .int .i64 0, .string ⟨#[]⟩, .string ⟨#[]⟩, .slice none 0 0], .bool false]))
set_option maxHeartbeats 8000000 in
set_option maxRecDepth 100000 in
theorem famSort_any (nm : ByteArray) (k : Int) (un he : ByteArray) (a : Option Addr) (c : Nat) (l : List PtD) (w : World) (hl : l.length ≤ 1000) (hL : ∀ p ∈ l, p.l.length ≤ 1000) (hA : PtsA a l w) :
  Calls Tryz.prog 38 #[.agg #[.string nm, .int .i64 k, .string un, .string he, .slice a l.length c]] w fun e w' => SortTold nm k un he l w.heap.size e w' ∧ Ext w w' := by
 have CL := fun W (x : Ext w W) => ownFam_any nm k un he a c l W hl hL (hA.ext x)
 obtain ⟨V, hV⟩ : ∃ V, Value.slice a l.length c = V := ⟨_, rfl⟩
 rw [hV] at CL ⊢
 obtain ⟨W, hW⟩ : ∃ W, (w.alloc (.cells #[.string nm, .int .i64 k, .string un, .string he, V] 35)).alloc (.cells #[.string ⟨#[]⟩, .int .i64 0, .string ⟨#[]⟩, .string ⟨#[]⟩, .slice none 0 0] 35) = W := ⟨_, rfl⟩
 have x1 : Ext w W := by rw [← hW]; exact ((Ext.refl w).alloc _).alloc _
 have h1 : FamIn w.heap.size nm k un he V W := by rw [← hW]; exact heap_at2a _ _ _
 have h2 : FamIn (w.heap.size + 1) ⟨#[]⟩ 0 ⟨#[]⟩ ⟨#[]⟩ (.slice none 0 0) W := by rw [← hW]; exact heap_at2b _ _ _
 have hWz : w.heap.size + 2 ≤ W.heap.size := by rw [← hW]; simp
 replace hW := Lib.hid hW
 have hz1 : w.heap.size ≤ w.heap.size + 1 := Nat.le_succ _
 obtain ⟨c0, c1, c2, c3, c4⟩ := h1.cells
 go_enter Tryz.func38, Tryz.ntmps38
 go_wp2_with fail
 rw [hW.out]
 (with_reducible refine (CL _ x1).mono ?_)
 rintro e w2 ⟨⟨v, L, rfl, hy, hO⟩, x2⟩
 clear c0 c1 c2 c3 c4 CL
 replace h1 := h1.ext x2
 replace h2 := h2.ext x2
 have x3 := x1.trans x2
 obtain ⟨c0, c1, c2, c3, c4⟩ := h1.cells
 have fr1 := fun o => h1.free o
 obtain ⟨a', c', hv⟩ := hO.1.form
 subst hv
 have hLl : L.length ≤ 1000 := by have := congrArg List.length hy; simp at this; omega
 have h1' := h1.stored nm k un he (.slice a' L.length c')
 have h2' := (((((h2.setC w.heap.size 0 (.string nm) (by omega)).setC w.heap.size 1 (.int .i64 k) (by omega)).setC w.heap.size 2 (.string un) (by omega)).setC w.heap.size 3 (.string he) (by omega)).setC w.heap.size 4 (.slice a' L.length c') (by omega))
 have hO' := hO.set5 w.heap.size (by omega) (.string nm) (.int .i64 k) (.string un) (.string he) (.slice a' L.length c')
 have x4 := x3.set5 w.heap.size (Nat.le_refl _) (.string nm) (.int .i64 k) (.string un) (.string he) (.slice a' L.length c')
 clear h1 h2 hO x3
 go_wp2_with fail
 clear c0 c1 c2 c3 c4 fr1
 have ST := sortPts_any _ _ L _ hO' hLl
 (with_reducible refine ST.mono ?_)
 rintro e w4 ⟨rfl, L', hp, hs, hO4, hg⟩
 clear ST
 have hbl : ∀ x, (Value.slice a' L.length c').ownBlock = some x → W.heap.size ≤ x := fun x hx => (hO'.1.lt x hx).1
 replace h1' := h1'.grown hg (fun x hx => by have := hbl x hx; omega)
 replace h2' := h2'.grown hg (fun x hx => by have := hbl x hx; omega)
 have x5 : Ext w w4 := grown_ext' x4 hg (Nat.le_refl _) (fun x hx => by have := hbl x hx; omega)
 clear x4 hg hO' x2 x1
 obtain ⟨c0, c1, c2, c3, c4⟩ := h1'.cells
 obtain ⟨a2, c2', hv2, hP⟩ := hO4.pts
 injection hv2 with e1 e2 e3
 subst e1 e3
 have hlen := hp.length_eq
 have RI := rises_any a' c' L' w4 (by omega) hP
 rw [← e2] at RI
 obtain ⟨R, hR⟩ : ∃ R, risesK (L'.map PtD.k) = R := ⟨_, rfl⟩
 rw [hR] at RI
 have hyp : (L'.map PtD.y).Perm (l.map PtD.y) := by rw [← hy]; exact hp.map _
 have hsort : (L'.map PtD.y).Pairwise (fun x y => ¬ cmpY y x < 0) := by rw [List.pairwise_map]; exact hs
 have hfin := risesK_y L'
 rw [hR] at hfin
 replace hfin := Lib.hid hfin
 replace hlen := Lib.hid hlen
 replace e2 := Lib.hid e2
 clear hy hp hs hP hR
 go_wp2_with fail
 (with_reducible refine RI.mono ?_)
 rintro e w5 ⟨rfl, x6⟩
 clear RI c0 c1 c2 c3 c4
 replace h1' := h1'.ext x6
 replace h2' := h2'.ext x6
 have x7 := x5.trans x6
 replace hO4 := hO4.ext x6
 obtain ⟨c0, c1, c2, c3, c4⟩ := h1'.cells
 obtain ⟨d0, d1, d2, d3, d4⟩ := h2'.cells
 have g0 : w5.frozen? ⟨w.heap.size + 1, 0, none⟩ = false := h2'.free 0
 have g1 : w5.frozen? ⟨w.heap.size + 1, 1, none⟩ = false := h2'.free 1
 have g2 : w5.frozen? ⟨w.heap.size + 1, 2, none⟩ = false := h2'.free 2
 have g3 : w5.frozen? ⟨w.heap.size + 1, 3, none⟩ = false := h2'.free 3
 have g4 : w5.frozen? ⟨w.heap.size + 1, 4, none⟩ = false := h2'.free 4
 clear h1' h2'
 cases R
 ·go_wp2_with fail
  refine bodyPost_ret (v := .tuple #[.agg #[.string ⟨#[]⟩, .int .i64 0, .string ⟨#[]⟩, .string ⟨#[]⟩, .slice none 0 0], .bool false]) ?_ rfl ⟨.inr ⟨fun M hM hr => ?_, rfl⟩, x7.set5 (w.heap.size + 1) hz1 _ _ _ _ _⟩
  ·simp [results, Tryz.results38, go_sem, d0, d1, d2, d3, d4]
  ·exact absurd (hfin.out.2 (Ris.of_sorted cmpY_cmp (hsort.imp (fun {x y} h => by omega)) hr (hyp.trans hM.symm))) (by decide)
 ·go_wp2_with fail
  refine bodyPost_ret (v := .tuple #[.agg #[.string nm, .int .i64 k, .string un, .string he, .slice a' L.length c'], .bool true]) ?_ rfl ⟨.inl ⟨_, L', hyp, hfin.out.1 (by first | rfl | trivial), rfl, (hO4.set5 (w.heap.size + 1) (by omega) _ _ _ _ _).mono (by omega)⟩, x7.set5 (w.heap.size + 1) hz1 _ _ _ _ _⟩
  simp [results, Tryz.results38, go_sem, d0, d1, d2, d3, d4]
end Go.Proofs.YtjjnmefihdjglaaGreat
