import Derived.Test.YtjjnmefihdjglaaGreatOwnA
namespace Go.Proofs.YtjjnmefihdjglaaGreat
open Go.RowKit
def PtD.zero : PtD := ⟨none, 0, [], 0, false, 0, 0, 0, 0, false, 0⟩
structure PtAt (base : Nat) (v : Value) (W : World) (p : PtD) : Prop where
 ok : p.Ok W
 lo : ∀ x, p.a = some x → base ≤ x.block
 hi : ∀ x, p.a = some x → x.block < W.heap.size
 off : ∀ x, p.a = some x → ∀ g, v.ownBlock = some g → x.block ≠ g
theorem PtAt.ext {base : Nat} {v : Value} {W W' : World} {p : PtD} (h : PtAt base v W p) (x : Ext W W') : PtAt base v W' p := ⟨h.ok.ext x, h.lo, fun a ha => Nat.lt_of_lt_of_le (h.hi a ha) x.size, h.off⟩
def OwnP (base : Nat) (v : Value) (L : List PtD) (W : World) : Prop :=
 OwnR 9 40 PtD.cs base v L.length (fun i => L[i]?.getD PtD.zero) W ∧ ∀ p ∈ L, PtAt base v W p
theorem OwnP.ext {base : Nat} {v : Value} {L : List PtD} {W W' : World} (h : OwnP base v L W) (x : Ext W W') : OwnP base v L W' :=
 ⟨h.1.ext x, fun p hp => (h.2 p hp).ext x⟩
theorem OwnP.mono {base base' : Nat} {v : Value} {L : List PtD} {W : World} (h : OwnP base v L W) (hb : base' ≤ base) : OwnP base' v L W := by
 refine ⟨?_, fun p hp => ⟨(h.2 p hp).ok, fun x hx => Nat.le_trans hb ((h.2 p hp).lo x hx), (h.2 p hp).hi, (h.2 p hp).off⟩⟩
 rcases h.1 with h | ⟨g, cap, e1, h1, h2⟩
 ·exact .inl h
 ·exact .inr ⟨g, cap, e1, Nat.le_trans hb h1, h2⟩
theorem OwnP.setC {base : Nat} {v : Value} {L : List PtD} {W : World} (h : OwnP base v L W) (b o : Nat) (u : Value) (hb : b < base) : OwnP base v L (W.setCell ⟨b, o, none⟩ u) := by
 refine ⟨?_, fun p hp => ⟨⟨(h.2 p hp).ok.1, (h.2 p hp).ok.2.1.setC b o u (fun x hx => by have := (h.2 p hp).lo x hx; omega), (h.2 p hp).ok.2.2⟩, (h.2 p hp).lo, fun x hx => by rw [World.size_setCell]; exact (h.2 p hp).hi x hx, (h.2 p hp).off⟩⟩
 rcases h.1 with h | ⟨g, cap, e1, h1, h2, c, h3, h4⟩
 ·exact .inl h
 ·refine .inr ⟨g, cap, e1, h1, h2, c, ?_, h4⟩
  unfold World.setCell
  simp only [Array.getElem?_modify]
  rw [if_neg (by omega)]
  exact h3
theorem OwnP.pts {base : Nat} {v : Value} {L : List PtD} {W : World} (h : OwnP base v L W) : ∃ a c, v = .slice a L.length c ∧ PtsA a L W := by
 obtain ⟨a, c, rfl⟩ := h.1.form
 refine ⟨a, c, rfl, fun h0 => ?_, fun p hp => (h.2 p hp).ok⟩
 obtain ⟨g, cap, e, hg, hr⟩ := h.1.row h0
 injection e with e _ _
 subst e
 refine ⟨g, 0, rfl, hr.lt, fun i hi => ?_⟩
 have e : L[i]?.getD PtD.zero = L[i] := by simp [hi]
 have C := fun j v hj hv => hr.cell i j v hi hj (by rw [e]; exact hv)
 rw [Nat.zero_add]
 exact ⟨C 0 _ (by decide) rfl, C 1 _ (by decide) rfl, C 2 _ (by decide) rfl, C 3 _ (by decide) rfl, C 4 _ (by decide) rfl, C 5 _ (by decide) rfl, C 6 _ (by decide) rfl, C 7 _ (by decide) rfl, C 8 _ (by decide) rfl⟩
theorem OwnP.push {base : Nat} {v v' : Value} {L : List PtD} {q : PtD} {w3 w4 : World} (h : OwnP base v L w3) (hq : PtAt base v w3 q)
  (h1 : OwnR 9 40 PtD.cs base v' (L.length + 1) (joinF L.length (fun i => L[i]?.getD PtD.zero) (fun _ => q)) w4) (h2 : w3.grownBy w4 v.ownBlock) (h3 : v'.ownBlock = v.ownBlock ∨ v'.ownBlock = some w3.heap.size) : OwnP base v' (L ++ [q]) w4 := by
 refine ⟨?_, fun p hp => ?_⟩
 ·rw [List.length_append, List.length_singleton]
  refine h1.congr fun i hi => ?_
  unfold joinF
  by_cases e : i < L.length
  ·rw [if_pos e]; simp [e, List.getElem?_append_left]
  ·rw [if_neg e]
   obtain rfl : i = L.length := by omega
   simp
 ·have key : PtAt base v w3 p := by
   rcases List.mem_append.1 hp with hp | hp
   ·exact h.2 p hp
   ·rw [List.mem_singleton] at hp
    subst hp
    exact hq
  refine ⟨key.ok.grown h2 (fun x hx g hg => key.off x hx g hg), key.lo, fun x hx => Nat.lt_of_lt_of_le (key.hi x hx) h2.size, fun x hx g hg => ?_⟩
  rcases h3 with h3 | h3
  ·rw [h3] at hg; exact key.off x hx g hg
  ·rw [h3] at hg
   injection hg with hg
   have := key.hi x hx
   omega
theorem ptC_one (p : PtD) : ∀ u ∈ PtD.cs p, u.oneCell' = true := by
 intro u hu
 simp [PtD.cs] at hu
 rcases hu with rfl | rfl | rfl | rfl | rfl | rfl | rfl | rfl | rfl <;> rfl
set_option maxHeartbeats 8000000 in
set_option maxRecDepth 100000 in
theorem ownPoints_any (a : Option Addr) (c : Nat) (l : List PtD) (w : World) (hl : l.length ≤ 1000) (hL : ∀ p ∈ l, p.l.length ≤ 1000) (hA : PtsA a l w) :
  Calls Tryz.prog 82 #[.slice a l.length c] w fun e w' => (∃ v L, e = .returned v ∧ L.map PtD.y = l.map PtD.y ∧ OwnP w.heap.size v L w') ∧ Ext w w' := by
 go_enter Tryz.func82, Tryz.ntmps82
 go_wp2_with fail
 go_loopw [3, 8] (fun o i wr => ∃ (k : Nat) (L : List PtD), i = .int .i64 k ∧ k ≤ l.length ∧ Hid (L.map PtD.y = (l.take k).map PtD.y) ∧ OwnP w.heap.size o L wr ∧ Ext w wr) (fun _ i _ => l.length - (intOf i).toNat)
 case atStart => exact ⟨0, [], rfl, Nat.zero_le _, Lib.hid rfl, ⟨OwnR.nil _ _ _, fun p hp => by cases hp⟩, Ext.refl _⟩
 case round =>
  obtain ⟨k, L, rfl, hk, hQ, hO, xr⟩ := hrel
  by_cases hlt : k < l.length
  ·obtain ⟨b, o, rfl, hb, hP⟩ := hA.1 (by omega)
   have ok := (hA.2 _ (List.getElem_mem hlt)).ext xr
   have ll := hL _ (List.getElem_mem hlt)
   obtain ⟨p0, p1, p2, p3, p4, p5, p6, p7, p8⟩ := hP k hlt
   obtain ⟨p, hp⟩ : ∃ p, l[k] = p := ⟨_, rfl⟩
   rw [hp] at p0 p1 p2 p3 p4 p5 p6 p7 p8 ok ll
   replace p0 := (Ext.cell xr hb).trans p0
   replace p1 := (Ext.cell xr hb).trans p1
   replace p2 := (Ext.cell xr hb).trans p2
   replace p3 := (Ext.cell xr hb).trans p3
   replace p4 := (Ext.cell xr hb).trans p4
   replace p5 := (Ext.cell xr hb).trans p5
   replace p6 := (Ext.cell xr hb).trans p6
   replace p7 := (Ext.cell xr hb).trans p7
   replace p8 := (Ext.cell xr hb).trans p8
   have PT := fun W (x : Ext wr W) => ownPoint_any p W (ok.ext x) ll
   unfold PtD.v ptV at PT
   have hL2 : L.length = k := by have := congrArg List.length hQ.out; simpa [Nat.min_eq_left hk] using this
   have hQ2 : ∀ q : PtD, q.y = p.y → Hid ((L ++ [q]).map PtD.y = (l.take (k + 1)).map PtD.y) := fun q hy => Lib.hid (by
    rw [List.map_append, hQ.out, List.take_add_one, List.map_append, List.getElem?_eq_getElem hlt, hp]
    simp [hy])
   replace hL2 := Lib.hid hL2
   clear hQ hp hP hA
   go_wp2_with fail
   have x1 := (Ext.refl wr).alloc (.cells #[.slice p.a p.l.length p.c, .int .i64 p.r, .bool p.f, .int .i64 p.M, .int .i64 p.S, .int .i64 p.m, .int .i64 p.s, .bool p.t, .int .i64 p.T] 40)
   (with_reducible refine (PT _ x1).mono ?_)
   rintro e w2 ⟨⟨q, rfl, hy, hq, hqa⟩, x2⟩
   have x3 := (x1.trans x2).alloc (.cells #[.slice q.a q.l.length q.c, .int .i64 q.r, .bool q.f, .int .i64 q.M, .int .i64 q.S, .int .i64 q.m, .int .i64 q.s, .bool q.t, .int .i64 q.T] 40)
   have xa := (Ext.refl w2).alloc (.cells #[.slice q.a q.l.length q.c, .int .i64 q.r, .bool q.f, .int .i64 q.M, .int .i64 q.S, .int .i64 q.m, .int .i64 q.s, .bool q.t, .int .i64 q.T] 40)
   have hcell : PtIn w2.heap.size (.slice q.a q.l.length q.c) q.r q.f q.M q.S q.m q.s q.t q.T (w2.alloc (.cells #[.slice q.a q.l.length q.c, .int .i64 q.r, .bool q.f, .int .i64 q.M, .int .i64 q.S, .int .i64 q.m, .int .i64 q.s, .bool q.t, .int .i64 q.T] 40)) := heap_last _ _
   have hO3 := hO.ext x3
   have hlt3 := hO.1.lt
   obtain ⟨w3, hw3⟩ : ∃ w3, w2.alloc (.cells #[.slice q.a q.l.length q.c, .int .i64 q.r, .bool q.f, .int .i64 q.M, .int .i64 q.S, .int .i64 q.m, .int .i64 q.s, .bool q.t, .int .i64 q.T] 40) = w3 := ⟨_, rfl⟩
   rw [hw3] at x3 xa hcell hO3
   have hs3 : w2.heap.size < w3.heap.size := by rw [← hw3]; simp
   have hs2 : wr.heap.size < w2.heap.size := by have := x2.size; rw [heap_size_alloc] at this; omega
   replace hw3 := Lib.hid hw3
   have hc : ∀ i, i < 1 → ∀ j, j < 9 → w3.cell? ((⟨w2.heap.size, 0, none⟩ : Addr).add (i * 9 + j)) = (PtD.cs q)[j]? := by
    intro i hi j hj
    obtain rfl : i = 0 := by omega
    rw [Addr.add_lit, Lib.cell_of_heap hcell]
    match j, hj with
    | 0, _ => rfl
    | 1, _ => rfl
    | 2, _ => rfl
    | 3, _ => rfl
    | 4, _ => rfl
    | 5, _ => rfl
    | 6, _ => rfl
    | 7, _ => rfl
    | 8, _ => rfl
   go_wp2_with (at_builtin; (try rw [hw3.out]); refine wpList_append_structs w3 rfl _ _ rfl tyPt (fun _ => rfl) ptC_one (by decide) w.heap.size _ L.length (fun i => L[i]?.getD PtD.zero) rfl hO3.1 ?c2 ⟨w2.heap.size, 0, none⟩ 1 1 (fun _ => q) rfl hc ?c3 ?c4 (.inr (by decide)) ?_)
   case c2 => exact Nat.le_trans xr.size x3.size
   case c3 => have := hL2.out; omega
   case c4 => have := hL2.out; omega
   intro v' w4 h1 h2 h3
   have hb3 : PtAt w.heap.size _ w3 q := ⟨hq.ext xa, fun x hx => by have := (hqa x hx).1; have := xr.size; rw [heap_size_alloc] at *; omega, fun x hx => by have := (hqa x hx).2; omega, fun x hx g hg => by have := (hqa x hx).1; rw [heap_size_alloc] at this; have := (hlt3 g hg).2; omega⟩
   have hO4 := hO3.push hb3 h1 h2 h3
   have x4 : Ext w w4 := grown_ext' (xr.trans x3) h2 (Nat.le_refl _) (fun g hg => (hlt3 g hg).1)
   have hQ3 := hQ2 q hy
   clear h1 h2 h3 hO3 hO hQ2 hc hcell
   go_wp2_with fail
   go_roundw
   case rel => exact ⟨k + 1, _, rfl, hlt, hQ3, hO4, x4⟩
   case measure => simp only [intOf]; omega
  ·obtain rfl : k = l.length := by omega
   have hQ2 := hQ.out
   rw [List.take_length] at hQ2
   replace hQ2 := Lib.hid hQ2
   clear hQ
   go_wp2_with fail
   go_ret
   exact ⟨⟨_, L, rfl, hQ2.out, hO⟩, xr⟩
end Go.Proofs.YtjjnmefihdjglaaGreat
