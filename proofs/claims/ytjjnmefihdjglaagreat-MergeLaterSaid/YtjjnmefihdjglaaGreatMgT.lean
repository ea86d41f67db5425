import Derived.Test.YtjjnmefihdjglaaGreatMgR
import Derived.Test.YtjjnmefihdjglaaGreatSmA
set_option linter.all false
namespace Go.Proofs.YtjjnmefihdjglaaGreat
open Go.RowKit
theorem ptIn_cons (nm : ByteArray) (q : PtY) (f : FamY) (l : List FamY) : ptIn nm q (f :: l) = (if f.nm = nm then f.ps.find? (fun p => cmpY p q == 0) else none).or (ptIn nm q l) := by
 rw [ptIn]
 split
 ·rfl
 ·exact Option.none_or.symm
def PointTold (v : World) (R : Option PtY) (e : Ending) : Prop :=
 ∃ (p : PtD) (ok : Bool), e = .returned (.tuple #[.agg #[.slice p.a p.l.length p.c, .int .i64 p.r, .bool p.f, .int .i64 p.M, .int .i64 p.S, .int .i64 p.m, .int .i64 p.s, .bool p.t, .int .i64 p.T], .bool ok]) ∧ (ok = true → R = some p.y) ∧ (ok = false → R = none) ∧ p.Ok v
theorem ok_zero (w : World) : PtD.Ok ⟨none, 0, [], 0, false, 0, 0, 0, 0, false, 0⟩ w :=
 ⟨by simp, (fun h => absurd h (by simp)), (fun x hx => by cases hx), ⟨by simp [I64], by simp [I64]⟩, ⟨by simp [I64], by simp [I64]⟩⟩
set_option maxHeartbeats 16000000 in
set_option maxRecDepth 100000 in
theorem hPoint_any (tn : ByteArray) (A : Option Addr) (c : Nat) (l : List FamD) (nm : ByteArray) (q : PtD) (v w : World) (xv : Ext v w) (hl : l.length ≤ 1000000) (hA : FamsA A l v) (hs : ∀ f ∈ l, f.y.Sm) (hq : q.Ok v) :
  Calls Tryz.prog 13 #[.agg #[.string tn, .slice A l.length c], .string nm, .agg #[.slice q.a q.l.length q.c, .int .i64 q.r, .bool q.f, .int .i64 q.M, .int .i64 q.S, .int .i64 q.m, .int .i64 q.s, .bool q.t, .int .i64 q.T]] w fun e w' => PointTold v (ptIn nm q.y (l.map FamD.y)) e ∧ Ext w w' := by
 obtain ⟨R, hR⟩ : ∃ R, ptIn nm q.y (l.map FamD.y) = R := ⟨_, rfl⟩
 rw [hR]
 obtain ⟨W, hW⟩ : ∃ W, ((w.alloc (.cells #[.string tn, .slice A l.length c] 27)).alloc (.cells #[.slice q.a q.l.length q.c, .int .i64 q.r, .bool q.f, .int .i64 q.M, .int .i64 q.S, .int .i64 q.m, .int .i64 q.s, .bool q.t, .int .i64 q.T] 40)).alloc (.cells #[.slice none 0 0, .int .i64 0, .bool false, .int .i64 0, .int .i64 0, .int .i64 0, .int .i64 0, .bool false, .int .i64 0] 40) = W := ⟨_, rfl⟩
 have x1 : Ext w W := by rw [← hW]; exact (((Ext.refl w).alloc _).alloc _).alloc _
 have gB : BatIn w.heap.size tn (.slice A l.length c) W := by rw [← hW]; exact BatIn.ext (heap_at2a _ _ _) ((Ext.refl _).alloc _)
 have gQ : PtIn (w.heap.size + 1) (.slice q.a q.l.length q.c) q.r q.f q.M q.S q.m q.s q.t q.T W := by rw [← hW]; exact PtIn.ext (heap_at2b _ _ _) ((Ext.refl _).alloc _)
 have gZ : PtIn (w.heap.size + 1 + 1) (.slice none 0 0) 0 false 0 0 0 0 false 0 W := by
  rw [← hW]
  have := heap_last ((w.alloc (.cells #[.string tn, .slice A l.length c] 27)).alloc (.cells #[.slice q.a q.l.length q.c, .int .i64 q.r, .bool q.f, .int .i64 q.M, .int .i64 q.S, .int .i64 q.m, .int .i64 q.s, .bool q.t, .int .i64 q.T] 40)) (.cells #[.slice none 0 0, .int .i64 0, .bool false, .int .i64 0, .int .i64 0, .int .i64 0, .int .i64 0, .bool false, .int .i64 0] 40)
  rw [heap_size_alloc, heap_size_alloc] at this
  exact this
 replace hW := Lib.hid hW
 obtain ⟨B, hB⟩ : ∃ B, w.heap.size = B := ⟨_, rfl⟩
 rw [hB] at gB gQ gZ
 have hwB : w.heap.size ≤ B + 1 + 1 := by omega
 have x0 := x1
 replace x1 := xv.trans x1
 go_enter Tryz.func13, Tryz.ntmps13
 go_wp2_with fail
 try rw [hB]
 rw [hW.out]
 clear hW hB
 go_loopw [8] (fun i wr => ∃ k : Nat, i = .int .i64 k ∧ k ≤ l.length ∧ Hid (ptIn nm q.y ((l.drop k).map FamD.y) = R) ∧ Ext W wr) (fun i _ => l.length - (intOf i).toNat)
 case atStart => exact ⟨0, rfl, Nat.zero_le _, Lib.hid hR, Ext.refl _⟩
 case round =>
  obtain ⟨k, rfl, hk, hg, xr⟩ := hrel
  clear hR
  replace gB := gB.ext xr
  replace gQ := gQ.ext xr
  replace gZ := gZ.ext xr
  replace x1 := x1.trans xr
  replace x0 := x0.trans xr
  have xw0 := xr
  by_cases hlt : k < l.length
  ·have hd := hg.out
   rw [List.drop_eq_getElem_cons hlt, List.map_cons, ptIn_cons] at hd
   obtain ⟨b, o, rfl, hb0, hL⟩ := hA.1 (by omega)
   have ok1 := hA.2 _ (List.getElem_mem hlt)
   have sm := (hs _ (List.getElem_mem hlt)).pl
   obtain ⟨p0, p1, p2, p3, p4⟩ := hL k hlt
   obtain ⟨f, hf⟩ : ∃ f, l[k] = f := ⟨_, rfl⟩
   rw [hf] at hd ok1 sm p0 p4
   replace p0 := (x1.cell hb0).trans p0
   replace p4 := (x1.cell hb0).trans p4
   have hb : b < wr.heap.size := Nat.lt_of_lt_of_le hb0 x1.size
   obtain ⟨rest, hrest⟩ : ∃ rest, ptIn nm q.y ((l.drop (k + 1)).map FamD.y) = rest := ⟨_, rfl⟩
   rw [hrest] at hd
   replace hrest := Lib.hid hrest
   change (if f.nm = nm then (f.ps.map PtD.y).find? (fun p => cmpY p q.y == 0) else none).or rest = R at hd
   have i1 : (k : Int) < (l.length : Int) := by omega
   obtain ⟨b0, b1⟩ := gB.cells
   clear p1 p2 p3 hf hL hg xr
   go_wp2_with fail
   clear b0 b1
   go_loopw [9] (fun i ws => ∃ m : Nat, i = .int .i64 m ∧ m ≤ f.ps.length ∧ Hid ((if f.nm = nm then ((f.ps.drop m).map PtD.y).find? (fun p => cmpY p q.y == 0) else none).or rest = R) ∧ Ext wr ws) (fun i _ => f.ps.length - (intOf i).toNat)
   case atStart => exact ⟨0, rfl, Nat.zero_le _, Lib.hid hd, Ext.refl _⟩
   case round =>
    rename World => ws
    obtain ⟨m, rfl, hm, hg, xs⟩ := hrel
    clear hd
    replace gB := gB.ext xs
    replace gQ := gQ.ext xs
    replace gZ := gZ.ext xs
    replace x1 := x1.trans xs
    replace x0 := x0.trans xs
    replace p0 := (Ext.cell xs hb).trans p0
    replace p4 := (Ext.cell xs hb).trans p4
    replace hb := Nat.lt_of_lt_of_le hb xs.size
    have hd := hg.out
    obtain ⟨b0, b1⟩ := gB.cells
    have en := eq_is f.nm nm
    by_cases hnm : f.nm = nm
    ·rw [decide_eq_true hnm] at en
     rw [if_pos hnm] at hd
     by_cases hmt : m < f.ps.length
     ·rw [List.drop_eq_getElem_cons hmt, List.map_cons] at hd
      obtain ⟨pb, po, epa, hpb0, hPP⟩ := ok1.1 (by omega)
      have okp := ok1.2 _ (List.getElem_mem hmt)
      obtain ⟨r0, r1, r2, r3, r4, r5, r6, r7, r8⟩ := hPP m hmt
      have mem := List.getElem_mem hmt
      generalize f.ps[m] = p at *
      rw [epa] at p4
      have hpb : pb < ws.heap.size := Nat.lt_of_lt_of_le hpb0 x1.size
      replace r0 := (x1.cell hpb0).trans r0
      replace r1 := (x1.cell hpb0).trans r1
      replace r2 := (x1.cell hpb0).trans r2
      replace r3 := (x1.cell hpb0).trans r3
      replace r4 := (x1.cell hpb0).trans r4
      replace r5 := (x1.cell hpb0).trans r5
      replace r6 := (x1.cell hpb0).trans r6
      replace r7 := (x1.cell hpb0).trans r7
      replace r8 := (x1.cell hpb0).trans r8
      have CP := fun W (x : Ext ws W) => rcmpD_any p q W (okp.ext (x1.trans x)) (hq.ext (x1.trans x))
      obtain ⟨cv, hcv⟩ : ∃ cv, cmpK p.k q.k = cv := ⟨_, rfl⟩
      rw [hcv] at CP
      unfold PtD.v ptV at CP
      have V1 : Hid (cv = 0 → R = some p.y) := Lib.hid (fun h => by
       rw [← hd, List.find?_cons_of_pos (by show (cmpK p.k q.k == 0) = true; rw [hcv, h]; rfl)]
       rfl)
      have V2 : Hid (cv ≠ 0 → (if f.nm = nm then ((f.ps.drop (m + 1)).map PtD.y).find? (fun p => cmpY p q.y == 0) else none).or rest = R) := Lib.hid (fun h => by
       rw [if_pos hnm, ← hd, List.find?_cons_of_neg (by show ¬ (cmpK p.k q.k == 0) = true; rw [hcv]; simpa using h)])
      have m1 : (m : Int) < (f.ps.length : Int) := by omega
      clear hd hg hPP mem hcv hA hs ok1
      go_wp2_with fail
      refine wp_region_held_drew (S := Ext ws) (by kernel_rfl) ((Ext.refl ws).drew) (fun hHeld => ?_)
      refine tk (i := 0) rfl (by kernel_rfl) (fun _ _ _ h => h) rfl (fun w9 hSw => by obtain ⟨b0, b1⟩ := (gB.ext hSw).cells; go_simp; (try with_reducible rfl)) hHeld ?_
      try simp only [Act.put, aT, aZ, aS]
      refine tk (i := 1) rfl (by kernel_rfl) (fun _ _ _ h => h) rfl (fun w9 hSw => by obtain ⟨b0, b1⟩ := (gB.ext hSw).cells; go_simp; (try with_reducible rfl)) hHeld ?_
      try simp only [Act.put, aT, aZ, aS]
      refine tk (i := 2) rfl (by kernel_rfl) (fun _ _ _ h => h) rfl (fun w9 hSw => by obtain ⟨b0, b1⟩ := (gB.ext hSw).cells; go_simp; (try with_reducible rfl)) hHeld ?_
      try simp only [Act.put, aT, aZ, aS]
      refine tk (i := 3) rfl (by kernel_rfl) (fun _ _ _ h => h) rfl (fun w9 hSw => by obtain ⟨b0, b1⟩ := (gB.ext hSw).cells; go_simp; (try with_reducible rfl)) hHeld ?_
      try simp only [Act.put, aT, aZ, aS]
      refine tk (i := 4) rfl (by kernel_rfl) (fun _ _ _ h => h) rfl (fun w9 hSw => by obtain ⟨b0, b1⟩ := (gB.ext hSw).cells; go_simp; (try with_reducible rfl)) hHeld ?_
      try simp only [Act.put, aT, aZ, aS]
      refine tk (i := 5) rfl (by kernel_rfl) (fun _ _ _ h => h) rfl (fun w9 hSw => by replace p4 := (Ext.cell hSw hb).trans p4; go_simp; (try with_reducible rfl)) hHeld ?_
      try simp only [Act.put, aT, aZ, aS]
      refine tk (i := 6) rfl (by kernel_rfl) (fun _ _ _ h => h) rfl (fun w9 hSw => by go_simp; (try with_reducible rfl)) hHeld ?_
      try simp only [Act.put, aT, aZ, aS]
      refine tk (i := 7) rfl (by kernel_rfl) (fun _ _ _ h => h) rfl (fun w9 hSw => by go_simp; (try with_reducible rfl)) hHeld ?_
      try simp only [Act.put, aT, aZ, aS]
      refine tk (i := 8) rfl (by kernel_rfl) (fun _ _ _ h => h) rfl (fun w9 hSw => by replace r0 := (Ext.cell hSw hpb).trans r0; replace r1 := (Ext.cell hSw hpb).trans r1; replace r2 := (Ext.cell hSw hpb).trans r2; replace r3 := (Ext.cell hSw hpb).trans r3; replace r4 := (Ext.cell hSw hpb).trans r4; replace r5 := (Ext.cell hSw hpb).trans r5; replace r6 := (Ext.cell hSw hpb).trans r6; replace r7 := (Ext.cell hSw hpb).trans r7; replace r8 := (Ext.cell hSw hpb).trans r8; go_simp; (try with_reducible rfl)) hHeld ?_
      try simp only [Act.put, aT, aZ, aS]
      refine tk (i := 9) rfl (by kernel_rfl) (fun _ _ _ h => h) rfl (fun w9 hSw => by obtain ⟨q0, q1, q2, q3, q4, q5, q6, q7, q8⟩ := (gQ.ext hSw).cells; go_simp; (try with_reducible rfl)) hHeld ?_
      try simp only [Act.put, aT, aZ, aS]
      refine wpAnyH_ready (rs := [10]) (by kernel_rfl) (by simp) (AllReadyH.cons (o := ?om11) ?im11 (fun K hK => ?_) AllReadyH.nil)
      case im11 => simp only [List.getElem?_toArray, List.getElem?_cons_succ, List.getElem?_cons_zero]; rfl
      rw [if_pos (by rfl)]
      go_simp
      go_at_call 34
      (with_reducible refine (CP _ hHeld).mono ?_)
      rintro e wz ⟨rfl, xz⟩
      refine hK.out _ _ (hHeld.trans xz) (fun hHeld => ?_)
      clear hK K
      try simp only [aT, aZ, aS]
      refine tk (i := 11) rfl (by kernel_rfl) (fun _ _ _ h => h) rfl (fun w9 hSw => by go_simp; (try with_reducible rfl)) hHeld ?_
      try simp only [Act.put, aT, aZ, aS]
      refine wpAnyH_done (by kernel_rfl) ?_ _
      by_cases h0 : cv = 0
      ·have V3 := V1.out h0
       replace V3 := Lib.hid V3
       subst h0
       have x2 := x0.trans hHeld
       replace gB := gB.ext hHeld
       replace gZ := gZ.ext hHeld
       replace hb := Nat.lt_of_lt_of_le hb hHeld.size
       replace p4 := (Ext.cell hHeld (Nat.lt_of_lt_of_le hb0 x1.size)).trans p4
       replace r0 := (Ext.cell hHeld hpb).trans r0
       replace r1 := (Ext.cell hHeld hpb).trans r1
       replace r2 := (Ext.cell hHeld hpb).trans r2
       replace r3 := (Ext.cell hHeld hpb).trans r3
       replace r4 := (Ext.cell hHeld hpb).trans r4
       replace r5 := (Ext.cell hHeld hpb).trans r5
       replace r6 := (Ext.cell hHeld hpb).trans r6
       replace r7 := (Ext.cell hHeld hpb).trans r7
       replace r8 := (Ext.cell hHeld hpb).trans r8
       clear b0 b1
       obtain ⟨b0, b1⟩ := gB.cells
       obtain ⟨z0, z1, z2, z3, z4, z5, z6, z7, z8⟩ := gZ.cells
       have fr := fun o => gZ.free o
       clear V1 V2 CP gB gQ
       go_wp2_with fail
       refine bodyPost_ret (v := .tuple #[.agg #[.slice p.a p.l.length p.c, .int .i64 p.r, .bool p.f, .int .i64 p.M, .int .i64 p.S, .int .i64 p.m, .int .i64 p.s, .bool p.t, .int .i64 p.T], .bool true]) ?_ rfl ⟨⟨p, true, rfl, fun _ => V3.out, (fun h => by cases h), okp⟩, ?_⟩
       ·simp [results, Tryz.results13, go_sem, z0, z1, z2, z3, z4, z5, z6, z7, z8]
       ·exact (((((((((x2.setC (B + 1 + 1) 0 _ hwB).setC (B + 1 + 1) 1 _ hwB).setC (B + 1 + 1) 2 _ hwB).setC (B + 1 + 1) 3 _ hwB).setC (B + 1 + 1) 4 _ hwB).setC (B + 1 + 1) 5 _ hwB).setC (B + 1 + 1) 6 _ hwB).setC (B + 1 + 1) 7 _ hwB).setC (B + 1 + 1) 8 _ hwB)
      ·have V3 := Lib.hid (V2.out h0)
       have h0b : (cv == 0) = false := beq_eq_false_iff_ne.2 h0
       clear V1 V2
       go_wp2_with fail
       go_roundw
       case rel => exact ⟨m + 1, rfl, hmt, V3, xs.trans hHeld⟩
       case measure => simp only [intOf]; omega
     ·have m1 : ¬ (m : Int) < (f.ps.length : Int) := by omega
      have V3 : Hid (ptIn nm q.y ((l.drop (k + 1)).map FamD.y) = R) := Lib.hid (by
       rw [hrest.out, ← hd, List.drop_eq_nil_of_le (by omega)]
       rfl)
      clear hd hg hs ok1
      go_wp2_with fail
      go_roundw
      case rel => exact ⟨k + 1, rfl, hlt, V3, xw0.trans xs⟩
      case measure => simp only [intOf]; omega
    ·rw [decide_eq_false hnm] at en
     rw [if_neg hnm] at hd
     have V3 : Hid (ptIn nm q.y ((l.drop (k + 1)).map FamD.y) = R) := Lib.hid (by
      rw [hrest.out, ← hd]
      rfl)
     clear hd hg hs ok1
     by_cases hmt : m < f.ps.length
     ·have m1 : (m : Int) < (f.ps.length : Int) := by omega
      go_wp2_with fail
      go_roundw
      case rel => exact ⟨k + 1, rfl, hlt, V3, xw0.trans xs⟩
      case measure => simp only [intOf]; omega
     ·have m1 : ¬ (m : Int) < (f.ps.length : Int) := by omega
      go_wp2_with fail
      go_roundw
      case rel => exact ⟨k + 1, rfl, hlt, V3, xw0.trans xs⟩
      case measure => simp only [intOf]; omega
  ·have hd := hg.out
   rw [List.drop_eq_nil_of_le (by omega)] at hd
   replace hd : Hid (none = R) := Lib.hid hd
   have i1 : ¬ (k : Int) < (l.length : Int) := by omega
   obtain ⟨b0, b1⟩ := gB.cells
   obtain ⟨z0, z1, z2, z3, z4, z5, z6, z7, z8⟩ := gZ.cells
   have fr := fun o => gZ.free o
   clear hg hs
   go_wp2_with fail
   refine bodyPost_ret (v := .tuple #[.agg #[.slice none 0 0, .int .i64 0, .bool false, .int .i64 0, .int .i64 0, .int .i64 0, .int .i64 0, .bool false, .int .i64 0], .bool false]) ?_ rfl ⟨⟨⟨none, 0, [], 0, false, 0, 0, 0, 0, false, 0⟩, false, rfl, (fun h => by cases h), fun _ => hd.out.symm, ok_zero _⟩, ?_⟩
   ·simp [results, Tryz.results13, go_sem, z0, z1, z2, z3, z4, z5, z6, z7, z8]
   ·exact (((((((((x0.setC (B + 1 + 1) 0 _ hwB).setC (B + 1 + 1) 1 _ hwB).setC (B + 1 + 1) 2 _ hwB).setC (B + 1 + 1) 3 _ hwB).setC (B + 1 + 1) 4 _ hwB).setC (B + 1 + 1) 5 _ hwB).setC (B + 1 + 1) 6 _ hwB).setC (B + 1 + 1) 7 _ hwB).setC (B + 1 + 1) 8 _ hwB)
end Go.Proofs.YtjjnmefihdjglaaGreat
