import Derived.Test.YtjjnmefihdjglaaGreatRpA
import Derived.Test.YtjjnmefihdjglaaGreatRegQuiet
namespace Go.Proofs.YtjjnmefihdjglaaGreat
open Go.RowKit
theorem build_four (a b c d e f g h : Int) (w : World) : (Instr.build 97 #[(0, .agg #[.int .i64 a, .int .i64 b]), (1, .agg #[.int .i64 c, .int .i64 d]), (2, .agg #[.int .i64 e, .int .i64 f]), (3, .agg #[.int .i64 g, .int .i64 h])]).run Tryz.prog w = .ok (.agg #[.int .i64 a, .int .i64 b, .int .i64 c, .int .i64 d, .int .i64 e, .int .i64 f, .int .i64 g, .int .i64 h]) w := by
 kernel_rfl
theorem lex2_z (b : Int) : lex2 0 b = b := by unfold lex2; simp
set_option maxHeartbeats 40000000 in
set_option maxRecDepth 100000 in
theorem rPtCmp_any (a1 a2 : Option Addr) (c1 c2 : Nat) (l1 l2 : List (ByteArray × ByteArray)) (r1 : Int) (f1 : Bool) (M1 S1 m1 s1 : Int) (t1 : Bool) (T1 : Int) (r2 : Int) (f2 : Bool) (M2 S2 m2 s2 : Int) (t2 : Bool) (T2 : Int) (w : World)
  (n1 : (l1.length : Int) ≤ 9223372036854775807) (n2 : (l2.length : Int) ≤ 9223372036854775807) (h1 : LabA a1 l1 w) (h2 : LabA a2 l2 w) (i1 : I64 M1) (j1 : I64 S1) (i2 : I64 M2) (j2 : I64 S2) :
  Calls Tryz.prog 34 #[ptV (.slice a1 l1.length c1) r1 f1 M1 S1 m1 s1 t1 T1, ptV (.slice a2 l2.length c2) r2 f2 M2 S2 m2 s2 t2 T2] w fun e w' => e = .returned (.int .i64 (cmpP l1 r1 f1 M1 S1 t1 T1 l2 r2 f2 M2 S2 t2 T2)) ∧ Ext w w' := by
 have K1 := fun W (x : Ext w W) => rLabCmp_any a1 a2 c1 c2 l1 l2 W n1 n2 (h1.ext x) (h2.ext x)
 have K6 := fun W => RCompare_any M1 S1 M2 S2 W i1 j1 i2 j2
 rw [← rcV_is _ _ _ _ (cS_in M1 S1) (cS_in M2 S2)] at K6
 obtain ⟨R, hR⟩ : ∃ R, cmpP l1 r1 f1 M1 S1 t1 T1 l2 r2 f2 M2 S2 t2 T2 = R := ⟨_, rfl⟩
 rw [hR]
 unfold cmpP at hR
 rw [← fl_cmp t1 t2, ← fl_cmp f1 f2] at hR
 generalize cmpLs l1 l2 = X0 at *
 generalize cmpD (cM M1 S1) (cS M1 S1) (cM M2 S2) (cS M2 S2) = X5 at *
 obtain ⟨v1, hv1⟩ : ∃ v, Value.slice a1 l1.length c1 = v := ⟨_, rfl⟩
 obtain ⟨v2, hv2⟩ : ∃ v, Value.slice a2 l2.length c2 = v := ⟨_, rfl⟩
 rw [hv1, hv2] at K1
 rw [hv1, hv2]
 unfold decV at K6
 unfold ptV
 clear hv1 hv2 h1 h2 n1 n2 i1 j1 i2 j2
 obtain ⟨W, hW⟩ : ∃ W, (w.alloc (.cells #[v1, .int .i64 r1, .bool f1, .int .i64 M1, .int .i64 S1, .int .i64 m1, .int .i64 s1, .bool t1, .int .i64 T1] 40)).alloc (.cells #[v2, .int .i64 r2, .bool f2, .int .i64 M2, .int .i64 S2, .int .i64 m2, .int .i64 s2, .bool t2, .int .i64 T2] 40) = W := ⟨_, rfl⟩
 have hx : Ext w W := by rw [← hW]; exact ((Ext.refl _).alloc _).alloc _
 have g1 : PtIn w.heap.size v1 r1 f1 M1 S1 m1 s1 t1 T1 W := by rw [← hW]; exact heap_at2a _ _ _
 have g2 : PtIn (w.heap.size + 1) v2 r2 f2 M2 S2 m2 s2 t2 T2 W := by rw [← hW]; exact heap_at2b _ _ _
 replace hW := Lib.hid hW
 obtain ⟨k0, k1, k2, k3, k4, k5, k6, k7, k8⟩ := g1.cells
 obtain ⟨p0, p1, p2, p3, p4, p5, p6, p7, p8⟩ := g2.cells
 go_enter Tryz.func34, Tryz.ntmps34
 go_wp2_with fail
 rw [hW.out]
 (with_reducible refine (K1 _ hx).mono ?_)
 rintro e w1 ⟨rfl, x1⟩
 replace g1 := g1.ext x1
 replace g2 := g2.ext x1
 have hx1 := hx.trans x1
 clear k0 k1 k2 k3 k4 k5 k6 k7 k8 p0 p1 p2 p3 p4 p5 p6 p7 p8 hW x1 hx K1
 obtain ⟨B1, hB1⟩ : ∃ B, w.heap.size = B := ⟨_, rfl⟩
 obtain ⟨B2, hB2⟩ : ∃ B, w.heap.size + 1 = B := ⟨_, rfl⟩
 rw [hB2] at g2 ⊢
 rw [hB1] at g1 ⊢
 clear hB1 hB2
 by_cases e0 : X0 = 0
 ·subst e0
  obtain ⟨k0, k1, k2, k3, k4, k5, k6, k7, k8⟩ := g1.cells
  obtain ⟨p0, p1, p2, p3, p4, p5, p6, p7, p8⟩ := g2.cells
  have hb1 : B1 < w1.heap.size := (Array.getElem?_eq_some_iff.1 g1).1
  have hb2 : B2 < w1.heap.size := (Array.getElem?_eq_some_iff.1 g2).1
  have FL1 := fun w => flag_any t1 w
  have FL2 := fun w => flag_any t2 w
  have FL3 := fun w => flag_any f1 w
  have FL4 := fun w => flag_any f2 w
  have hR2 : orL [cmpI (fl t1) (fl t2), cmpI T1 T2, cmpI r1 r2, cmpI (fl f1) (fl f2), X5] = R := by rw [← hR, orL_cons 0, lex2_z]
  replace hR2 := Lib.hid hR2
  clear hR
  go_upto_region 4 with fail
  go_cut [6] (fun u wx => u = .pointer (some ⟨w1.heap.size, 0, none⟩) ∧ wx.heap[w1.heap.size]? = some (.cells #[.int .i64 (fl t1), .int .i64 (fl t2), .int .i64 T1, .int .i64 T2, .int .i64 r1, .int .i64 r2, .int .i64 (fl f1), .int .i64 (fl f2)] 97 (0, 0)) ∧ Ext w1 wx)
  case first =>
   as_aux_lemma =>
   generalize fl t1 = A1 at *
   generalize fl t2 = A2 at *
   generalize fl f1 = A3 at *
   generalize fl f2 = A4 at *
   have q0 : w1.drew.cell? ⟨B1, 7, none⟩ = some (.bool t1) ∧ w1.drew.cell? ⟨B2, 7, none⟩ = some (.bool t2) ∧ w1.drew.cell? ⟨B1, 8, none⟩ = some (.int .i64 T1) ∧ w1.drew.cell? ⟨B2, 8, none⟩ = some (.int .i64 T2) ∧ w1.drew.cell? ⟨B1, 1, none⟩ = some (.int .i64 r1) ∧ w1.drew.cell? ⟨B2, 1, none⟩ = some (.int .i64 r2) ∧ w1.drew.cell? ⟨B1, 2, none⟩ = some (.bool f1) ∧ w1.drew.cell? ⟨B2, 2, none⟩ = some (.bool f2) := ⟨k7, p7, k8, p8, k1, p1, k2, p2⟩
   have hn1 : ¬ w1.heap.size = B1 := by omega
   have hn2 : ¬ w1.heap.size = B2 := by omega
   clear g1 g2 hx1 K6 hR2
   refine wp_region_held_drew (S := fun w' => w'.cell? ⟨B1, 7, none⟩ = some (.bool t1) ∧ w'.cell? ⟨B2, 7, none⟩ = some (.bool t2) ∧ w'.cell? ⟨B1, 8, none⟩ = some (.int .i64 T1) ∧ w'.cell? ⟨B2, 8, none⟩ = some (.int .i64 T2) ∧ w'.cell? ⟨B1, 1, none⟩ = some (.int .i64 r1) ∧ w'.cell? ⟨B2, 1, none⟩ = some (.int .i64 r2) ∧ w'.cell? ⟨B1, 2, none⟩ = some (.bool f1) ∧ w'.cell? ⟨B2, 2, none⟩ = some (.bool f2)) (by kernel_rfl) (q0) (fun hHeld => ?_)
   refine wpAnyH_take (i := 0) (oi := ?oim1) (v := ?vm1) ?him1 (by kernel_rfl) (by kernel_rfl) (by kernel_rfl) ?hQm1 (Or.inl ⟨?hwm1, ?hym1⟩) hHeld ?restm1
   case him1 => simp only [List.getElem?_toArray, List.getElem?_cons_zero]; rfl
   case hQm1 => exact fun _ _ _ h => h
   case hwm1 => rfl
   case hym1 => (intro w9 hSw; skip; go_simp; (try with_reducible rfl))
   case restm1 =>
   try simp only [Act.put, List.setIfInBounds_toArray, List.set_cons_zero, List.set_cons_succ]
   refine wpAnyH_take (i := 1) (oi := ?oim2) (v := ?vm2) ?him2 (by kernel_rfl) (by kernel_rfl) (by kernel_rfl) ?hQm2 (Or.inl ⟨?hwm2, ?hym2⟩) hHeld ?restm2
   case him2 => simp only [List.getElem?_toArray, List.getElem?_cons_succ, List.getElem?_cons_zero]; rfl
   case hQm2 => exact fun _ _ _ h => h
   case hwm2 => rfl
   case hym2 => (intro w9 hSw; obtain ⟨z1, z2, z3, z4, z5, z6, z7, z8⟩ := hSw; go_simp; (try with_reducible rfl))
   case restm2 =>
   try simp only [Act.put, List.setIfInBounds_toArray, List.set_cons_zero, List.set_cons_succ]
   refine wpAnyH_tells (i := 2) (o := ?om3) (v := .int .i64 A1) ?him3 (by kernel_rfl) (by kernel_rfl) (by kernel_rfl) ?hQm3 ⟨?hwm3, 62, #[.bool t1], ?hrm3, fun w9 _ => FL1 w9⟩ hHeld ?restm3
   case him3 => simp only [List.getElem?_toArray, List.getElem?_cons_succ, List.getElem?_cons_zero]; rfl
   case hQm3 => exact fun _ _ _ h => h
   case hwm3 => rfl
   case hrm3 => (intro w9 _; go_simp; (try with_reducible rfl))
   case restm3 =>
   try simp only [Act.put, List.setIfInBounds_toArray, List.set_cons_zero, List.set_cons_succ]
   refine wpAnyH_take (i := 3) (oi := ?oim4) (v := ?vm4) ?him4 (by kernel_rfl) (by kernel_rfl) (by kernel_rfl) ?hQm4 (Or.inl ⟨?hwm4, ?hym4⟩) hHeld ?restm4
   case him4 => simp only [List.getElem?_toArray, List.getElem?_cons_succ, List.getElem?_cons_zero]; rfl
   case hQm4 => exact fun _ _ _ h => h
   case hwm4 => rfl
   case hym4 => (intro w9 hSw; skip; go_simp; (try with_reducible rfl))
   case restm4 =>
   try simp only [Act.put, List.setIfInBounds_toArray, List.set_cons_zero, List.set_cons_succ]
   refine wpAnyH_take (i := 4) (oi := ?oim5) (v := ?vm5) ?him5 (by kernel_rfl) (by kernel_rfl) (by kernel_rfl) ?hQm5 (Or.inl ⟨?hwm5, ?hym5⟩) hHeld ?restm5
   case him5 => simp only [List.getElem?_toArray, List.getElem?_cons_succ, List.getElem?_cons_zero]; rfl
   case hQm5 => exact fun _ _ _ h => h
   case hwm5 => rfl
   case hym5 => (intro w9 hSw; obtain ⟨z1, z2, z3, z4, z5, z6, z7, z8⟩ := hSw; go_simp; (try with_reducible rfl))
   case restm5 =>
   try simp only [Act.put, List.setIfInBounds_toArray, List.set_cons_zero, List.set_cons_succ]
   refine wpAnyH_tells (i := 5) (o := ?om6) (v := .int .i64 A2) ?him6 (by kernel_rfl) (by kernel_rfl) (by kernel_rfl) ?hQm6 ⟨?hwm6, 62, #[.bool t2], ?hrm6, fun w9 _ => FL2 w9⟩ hHeld ?restm6
   case him6 => simp only [List.getElem?_toArray, List.getElem?_cons_succ, List.getElem?_cons_zero]; rfl
   case hQm6 => exact fun _ _ _ h => h
   case hwm6 => rfl
   case hrm6 => (intro w9 _; go_simp; (try with_reducible rfl))
   case restm6 =>
   try simp only [Act.put, List.setIfInBounds_toArray, List.set_cons_zero, List.set_cons_succ]
   refine wpAnyH_take (i := 6) (oi := ?oim7) (v := ?vm7) ?him7 (by kernel_rfl) (by kernel_rfl) (by kernel_rfl) ?hQm7 (Or.inl ⟨?hwm7, ?hym7⟩) hHeld ?restm7
   case him7 => simp only [List.getElem?_toArray, List.getElem?_cons_succ, List.getElem?_cons_zero]; rfl
   case hQm7 => exact fun _ _ _ h => h
   case hwm7 => rfl
   case hym7 => (intro w9 hSw; skip; go_simp; (try with_reducible rfl))
   case restm7 =>
   try simp only [Act.put, List.setIfInBounds_toArray, List.set_cons_zero, List.set_cons_succ]
   refine wpAnyH_take (i := 7) (oi := ?oim8) (v := ?vm8) ?him8 (by kernel_rfl) (by kernel_rfl) (by kernel_rfl) ?hQm8 (Or.inl ⟨?hwm8, ?hym8⟩) hHeld ?restm8
   case him8 => simp only [List.getElem?_toArray, List.getElem?_cons_succ, List.getElem?_cons_zero]; rfl
   case hQm8 => exact fun _ _ _ h => h
   case hwm8 => rfl
   case hym8 => (intro w9 hSw; skip; go_simp; (try with_reducible rfl))
   case restm8 =>
   try simp only [Act.put, List.setIfInBounds_toArray, List.set_cons_zero, List.set_cons_succ]
   refine wpAnyH_take (i := 8) (oi := ?oim9) (v := ?vm9) ?him9 (by kernel_rfl) (by kernel_rfl) (by kernel_rfl) ?hQm9 (Or.inl ⟨?hwm9, ?hym9⟩) hHeld ?restm9
   case him9 => simp only [List.getElem?_toArray, List.getElem?_cons_succ, List.getElem?_cons_zero]; rfl
   case hQm9 => exact fun _ _ _ h => h
   case hwm9 => rfl
   case hym9 => (intro w9 hSw; obtain ⟨z1, z2, z3, z4, z5, z6, z7, z8⟩ := hSw; go_simp; (try with_reducible rfl))
   case restm9 =>
   try simp only [Act.put, List.setIfInBounds_toArray, List.set_cons_zero, List.set_cons_succ]
   refine wpAnyH_take (i := 9) (oi := ?oim10) (v := ?vm10) ?him10 (by kernel_rfl) (by kernel_rfl) (by kernel_rfl) ?hQm10 (Or.inl ⟨?hwm10, ?hym10⟩) hHeld ?restm10
   case him10 => simp only [List.getElem?_toArray, List.getElem?_cons_succ, List.getElem?_cons_zero]; rfl
   case hQm10 => exact fun _ _ _ h => h
   case hwm10 => rfl
   case hym10 => (intro w9 hSw; skip; go_simp; (try with_reducible rfl))
   case restm10 =>
   try simp only [Act.put, List.setIfInBounds_toArray, List.set_cons_zero, List.set_cons_succ]
   refine wpAnyH_take (i := 10) (oi := ?oim11) (v := ?vm11) ?him11 (by kernel_rfl) (by kernel_rfl) (by kernel_rfl) ?hQm11 (Or.inl ⟨?hwm11, ?hym11⟩) hHeld ?restm11
   case him11 => simp only [List.getElem?_toArray, List.getElem?_cons_succ, List.getElem?_cons_zero]; rfl
   case hQm11 => exact fun _ _ _ h => h
   case hwm11 => rfl
   case hym11 => (intro w9 hSw; obtain ⟨z1, z2, z3, z4, z5, z6, z7, z8⟩ := hSw; go_simp; (try with_reducible rfl))
   case restm11 =>
   try simp only [Act.put, List.setIfInBounds_toArray, List.set_cons_zero, List.set_cons_succ]
   refine wpAnyH_take (i := 11) (oi := ?oim12) (v := ?vm12) ?him12 (by kernel_rfl) (by kernel_rfl) (by kernel_rfl) ?hQm12 (Or.inl ⟨?hwm12, ?hym12⟩) hHeld ?restm12
   case him12 => simp only [List.getElem?_toArray, List.getElem?_cons_succ, List.getElem?_cons_zero]; rfl
   case hQm12 => exact fun _ _ _ h => h
   case hwm12 => rfl
   case hym12 => (intro w9 hSw; skip; go_simp; (try with_reducible rfl))
   case restm12 =>
   try simp only [Act.put, List.setIfInBounds_toArray, List.set_cons_zero, List.set_cons_succ]
   refine wpAnyH_take (i := 12) (oi := ?oim13) (v := ?vm13) ?him13 (by kernel_rfl) (by kernel_rfl) (by kernel_rfl) ?hQm13 (Or.inl ⟨?hwm13, ?hym13⟩) hHeld ?restm13
   case him13 => simp only [List.getElem?_toArray, List.getElem?_cons_succ, List.getElem?_cons_zero]; rfl
   case hQm13 => exact fun _ _ _ h => h
   case hwm13 => rfl
   case hym13 => (intro w9 hSw; skip; go_simp; (try with_reducible rfl))
   case restm13 =>
   try simp only [Act.put, List.setIfInBounds_toArray, List.set_cons_zero, List.set_cons_succ]
   refine wpAnyH_take (i := 13) (oi := ?oim14) (v := ?vm14) ?him14 (by kernel_rfl) (by kernel_rfl) (by kernel_rfl) ?hQm14 (Or.inl ⟨?hwm14, ?hym14⟩) hHeld ?restm14
   case him14 => simp only [List.getElem?_toArray, List.getElem?_cons_succ, List.getElem?_cons_zero]; rfl
   case hQm14 => exact fun _ _ _ h => h
   case hwm14 => rfl
   case hym14 => (intro w9 hSw; obtain ⟨z1, z2, z3, z4, z5, z6, z7, z8⟩ := hSw; go_simp; (try with_reducible rfl))
   case restm14 =>
   try simp only [Act.put, List.setIfInBounds_toArray, List.set_cons_zero, List.set_cons_succ]
   refine wpAnyH_take (i := 14) (oi := ?oim15) (v := ?vm15) ?him15 (by kernel_rfl) (by kernel_rfl) (by kernel_rfl) ?hQm15 (Or.inl ⟨?hwm15, ?hym15⟩) hHeld ?restm15
   case him15 => simp only [List.getElem?_toArray, List.getElem?_cons_succ, List.getElem?_cons_zero]; rfl
   case hQm15 => exact fun _ _ _ h => h
   case hwm15 => rfl
   case hym15 => (intro w9 hSw; skip; go_simp; (try with_reducible rfl))
   case restm15 =>
   try simp only [Act.put, List.setIfInBounds_toArray, List.set_cons_zero, List.set_cons_succ]
   refine wpAnyH_take (i := 15) (oi := ?oim16) (v := ?vm16) ?him16 (by kernel_rfl) (by kernel_rfl) (by kernel_rfl) ?hQm16 (Or.inl ⟨?hwm16, ?hym16⟩) hHeld ?restm16
   case him16 => simp only [List.getElem?_toArray, List.getElem?_cons_succ, List.getElem?_cons_zero]; rfl
   case hQm16 => exact fun _ _ _ h => h
   case hwm16 => rfl
   case hym16 => (intro w9 hSw; obtain ⟨z1, z2, z3, z4, z5, z6, z7, z8⟩ := hSw; go_simp; (try with_reducible rfl))
   case restm16 =>
   try simp only [Act.put, List.setIfInBounds_toArray, List.set_cons_zero, List.set_cons_succ]
   refine wpAnyH_take (i := 16) (oi := ?oim17) (v := ?vm17) ?him17 (by kernel_rfl) (by kernel_rfl) (by kernel_rfl) ?hQm17 (Or.inl ⟨?hwm17, ?hym17⟩) hHeld ?restm17
   case him17 => simp only [List.getElem?_toArray, List.getElem?_cons_succ, List.getElem?_cons_zero]; rfl
   case hQm17 => exact fun _ _ _ h => h
   case hwm17 => rfl
   case hym17 => (intro w9 hSw; skip; go_simp; (try with_reducible rfl))
   case restm17 =>
   try simp only [Act.put, List.setIfInBounds_toArray, List.set_cons_zero, List.set_cons_succ]
   refine wpAnyH_take (i := 17) (oi := ?oim18) (v := ?vm18) ?him18 (by kernel_rfl) (by kernel_rfl) (by kernel_rfl) ?hQm18 (Or.inl ⟨?hwm18, ?hym18⟩) hHeld ?restm18
   case him18 => simp only [List.getElem?_toArray, List.getElem?_cons_succ, List.getElem?_cons_zero]; rfl
   case hQm18 => exact fun _ _ _ h => h
   case hwm18 => rfl
   case hym18 => (intro w9 hSw; skip; go_simp; (try with_reducible rfl))
   case restm18 =>
   try simp only [Act.put, List.setIfInBounds_toArray, List.set_cons_zero, List.set_cons_succ]
   refine wpAnyH_take (i := 18) (oi := ?oim19) (v := ?vm19) ?him19 (by kernel_rfl) (by kernel_rfl) (by kernel_rfl) ?hQm19 (Or.inl ⟨?hwm19, ?hym19⟩) hHeld ?restm19
   case him19 => simp only [List.getElem?_toArray, List.getElem?_cons_succ, List.getElem?_cons_zero]; rfl
   case hQm19 => exact fun _ _ _ h => h
   case hwm19 => rfl
   case hym19 => (intro w9 hSw; obtain ⟨z1, z2, z3, z4, z5, z6, z7, z8⟩ := hSw; go_simp; (try with_reducible rfl))
   case restm19 =>
   try simp only [Act.put, List.setIfInBounds_toArray, List.set_cons_zero, List.set_cons_succ]
   refine wpAnyH_tells (i := 19) (o := ?om20) (v := .int .i64 A3) ?him20 (by kernel_rfl) (by kernel_rfl) (by kernel_rfl) ?hQm20 ⟨?hwm20, 62, #[.bool f1], ?hrm20, fun w9 _ => FL3 w9⟩ hHeld ?restm20
   case him20 => simp only [List.getElem?_toArray, List.getElem?_cons_succ, List.getElem?_cons_zero]; rfl
   case hQm20 => exact fun _ _ _ h => h
   case hwm20 => rfl
   case hrm20 => (intro w9 _; go_simp; (try with_reducible rfl))
   case restm20 =>
   try simp only [Act.put, List.setIfInBounds_toArray, List.set_cons_zero, List.set_cons_succ]
   refine wpAnyH_take (i := 20) (oi := ?oim21) (v := ?vm21) ?him21 (by kernel_rfl) (by kernel_rfl) (by kernel_rfl) ?hQm21 (Or.inl ⟨?hwm21, ?hym21⟩) hHeld ?restm21
   case him21 => simp only [List.getElem?_toArray, List.getElem?_cons_succ, List.getElem?_cons_zero]; rfl
   case hQm21 => exact fun _ _ _ h => h
   case hwm21 => rfl
   case hym21 => (intro w9 hSw; skip; go_simp; (try with_reducible rfl))
   case restm21 =>
   try simp only [Act.put, List.setIfInBounds_toArray, List.set_cons_zero, List.set_cons_succ]
   refine wpAnyH_take (i := 21) (oi := ?oim22) (v := ?vm22) ?him22 (by kernel_rfl) (by kernel_rfl) (by kernel_rfl) ?hQm22 (Or.inl ⟨?hwm22, ?hym22⟩) hHeld ?restm22
   case him22 => simp only [List.getElem?_toArray, List.getElem?_cons_succ, List.getElem?_cons_zero]; rfl
   case hQm22 => exact fun _ _ _ h => h
   case hwm22 => rfl
   case hym22 => (intro w9 hSw; obtain ⟨z1, z2, z3, z4, z5, z6, z7, z8⟩ := hSw; go_simp; (try with_reducible rfl))
   case restm22 =>
   try simp only [Act.put, List.setIfInBounds_toArray, List.set_cons_zero, List.set_cons_succ]
   refine wpAnyH_tells (i := 22) (o := ?om23) (v := .int .i64 A4) ?him23 (by kernel_rfl) (by kernel_rfl) (by kernel_rfl) ?hQm23 ⟨?hwm23, 62, #[.bool f2], ?hrm23, fun w9 _ => FL4 w9⟩ hHeld ?restm23
   case him23 => simp only [List.getElem?_toArray, List.getElem?_cons_succ, List.getElem?_cons_zero]; rfl
   case hQm23 => exact fun _ _ _ h => h
   case hwm23 => rfl
   case hrm23 => (intro w9 _; go_simp; (try with_reducible rfl))
   case restm23 =>
   try simp only [Act.put, List.setIfInBounds_toArray, List.set_cons_zero, List.set_cons_succ]
   refine wpAnyH_take (i := 23) (oi := ?oim24) (v := ?vm24) ?him24 (by kernel_rfl) (by kernel_rfl) (by kernel_rfl) ?hQm24 (Or.inl ⟨?hwm24, ?hym24⟩) hHeld ?restm24
   case him24 => simp only [List.getElem?_toArray, List.getElem?_cons_succ, List.getElem?_cons_zero]; rfl
   case hQm24 => exact fun _ _ _ h => h
   case hwm24 => rfl
   case hym24 => (intro w9 hSw; skip; go_simp; (try with_reducible rfl))
   case restm24 =>
   try simp only [Act.put, List.setIfInBounds_toArray, List.set_cons_zero, List.set_cons_succ]
   refine wpAnyH_take (i := 24) (oi := ?oim25) (v := .agg #[.int .i64 A1, .int .i64 A2, .int .i64 T1, .int .i64 T2, .int .i64 r1, .int .i64 r2, .int .i64 A3, .int .i64 A4]) ?him25 (by kernel_rfl) (by kernel_rfl) (by kernel_rfl) ?hQm25 (Or.inl ⟨?hwm25, ?hym25⟩) hHeld ?restm25
   case him25 => simp only [List.getElem?_toArray, List.getElem?_cons_succ, List.getElem?_cons_zero]; rfl
   case hQm25 => exact fun _ _ _ h => h
   case hwm25 => rfl
   case hym25 => (intro w9 hSw; have this := build_four A1 A2 T1 T2 r1 r2 A3 A4 w9; simp only [execOp, List.map_toArray, List.map_cons, List.map_nil]; show Sem.run Tryz.prog (do let v ← Instr.build 97 #[(0, .agg #[.int .i64 A1, .int .i64 A2]), (1, .agg #[.int .i64 T1, .int .i64 T2]), (2, .agg #[.int .i64 r1, .int .i64 r2]), (3, .agg #[.int .i64 A3, .int .i64 A4])]; pure (Next.value v)) w9 = _; rw [Sem.run_bind, this]; rfl)
   case restm25 =>
   try simp only [Act.put, List.setIfInBounds_toArray, List.set_cons_zero, List.set_cons_succ]
   refine wpAnyH_ready (rs := [25]) (by kernel_rfl) (by simp) (AllReadyH.cons (o := ?om26) ?im26 (fun K hK => ?_) AllReadyH.nil)
   case im26 => simp only [List.getElem?_toArray, List.getElem?_cons_succ, List.getElem?_cons_zero]; rfl
   rw [if_pos (by rfl)]
   go_simp
   refine hK.out _ _ (by go_keep) (fun hHeld => ?_)
   clear hK K
   try simp only [List.setIfInBounds_toArray, List.set_cons_zero, List.set_cons_succ]
   refine wpAnyH_ready (rs := [26]) (by kernel_rfl) (by simp) (AllReadyH.cons (o := ?om27) ?im27 (fun K hK => ?_) AllReadyH.nil)
   case im27 => simp only [List.getElem?_toArray, List.getElem?_cons_succ, List.getElem?_cons_zero]; rfl
   rw [if_pos (by rfl)]
   go_simp
   refine hK.out _ _ (by go_keep) (fun hHeld => ?_)
   clear hK K
   try simp only [List.setIfInBounds_toArray, List.set_cons_zero, List.set_cons_succ]
   refine wpAnyH_done (by kernel_rfl) ?_ _
   all_goals
    go_wp2_with fail
    go_meet
    case rel => exact ⟨rfl, heap_last _ _, (Ext.refl w1).drew.alloc _⟩
  case rest =>
  as_aux_lemma =>
  obtain ⟨rfl, hh, xc⟩ := hcut
  replace g1 := g1.ext xc
  replace g2 := g2.ext xc
  replace hx1 := hx1.trans xc
  obtain ⟨nb, hnb⟩ : ∃ nb, w1.heap.size = nb := ⟨_, rfl⟩
  rw [hnb] at hh ⊢
  clear hnb xc k0 k1 k2 k3 k4 k5 k6 k7 k8 p0 p1 p2 p3 p4 p5 p6 p7 p8 hb1 hb2 FL1 FL2 FL3 FL4
  go_wp2_with fail
  go_loopw [7] (fun i wr => ∃ k : Nat, i = .int .i64 k ∧ k ≤ 4 ∧ Hid (orL (([cmpI (fl t1) (fl t2), cmpI T1 T2, cmpI r1 r2, cmpI (fl f1) (fl f2), X5] : List Int).drop k) = R) ∧ Ext wc wr) (fun i _ => 4 - (intOf i).toNat)
  case atStart => exact ⟨0, rfl, by omega, hR2, Ext.refl _⟩
  case round =>
   obtain ⟨k, rfl, hk, hd, xr⟩ := hrel
   clear hR2
   have hhr := (xr.heap (Array.getElem?_eq_some_iff.1 hh).1).trans hh
   by_cases h4 : k < 4
   ·rcases (show k = 0 ∨ k = 1 ∨ k = 2 ∨ k = 3 from by omega) with rfl | rfl | rfl | rfl
    ·have z0 : wr.drew.cell? ⟨nb, 0, none⟩ = some (.int .i64 (fl t1)) := by rw [World.cell?_drew, Lib.cell_of_heap hhr]; rfl
     have z1 : wr.drew.cell? ⟨nb, 1, none⟩ = some (.int .i64 (fl t2)) := by rw [World.cell?_drew, Lib.cell_of_heap hhr]; rfl
     have NU := fun w => number_any (fl t1) (fl t2) w
     have hd2 : lex2 (cmpI (fl t1) (fl t2)) (orL (([cmpI (fl t1) (fl t2), cmpI T1 T2, cmpI r1 r2, cmpI (fl f1) (fl f2), X5] : List Int).drop 1)) = R := hd.out
     clear hhr hd
     obtain ⟨cv, hcv⟩ : ∃ cv, cmpI (fl t1) (fl t2) = cv := ⟨_, rfl⟩
     rw [hcv] at NU hd2
     clear hcv
     by_cases e0 : cv = 0
     ·subst e0
      rw [lex2_z] at hd2
      replace hd2 := Lib.hid hd2
      go_wp2_with fail
      go_region_held3 (fun w' => w'.cell? ⟨nb, 0, none⟩ = some (.int .i64 (fl t1)) ∧ w'.cell? ⟨nb, 1, none⟩ = some (.int .i64 (fl t2))) (first | exact ⟨z0, z1⟩ | go_keep) (first
       | (go_at_call 63; (with_reducible refine (NU _).mono ?_); rintro e wz ⟨rfl, rfl⟩))
      go_wp2_with fail
      go_roundw
      case rel => exact ⟨1, rfl, by omega, hd2, xr.drew⟩
      case measure => simp only [intOf]; omega
     ·have hd3 : cv = R := by rw [← hd2]; unfold lex2; rw [if_pos e0]
      subst hd3
      clear hd2
      go_wp2_with fail
      go_region_held3 (fun w' => w'.cell? ⟨nb, 0, none⟩ = some (.int .i64 (fl t1)) ∧ w'.cell? ⟨nb, 1, none⟩ = some (.int .i64 (fl t2))) (first | exact ⟨z0, z1⟩ | go_keep) (first
       | (go_at_call 63; (with_reducible refine (NU _).mono ?_); rintro e wz ⟨rfl, rfl⟩))
      go_wp2_with fail
      go_ret
      exact ⟨rfl, hx1.trans xr.drew⟩
    ·have z0 : wr.drew.cell? ⟨nb, 2, none⟩ = some (.int .i64 T1) := by rw [World.cell?_drew, Lib.cell_of_heap hhr]; rfl
     have z1 : wr.drew.cell? ⟨nb, 3, none⟩ = some (.int .i64 T2) := by rw [World.cell?_drew, Lib.cell_of_heap hhr]; rfl
     have NU := fun w => number_any T1 T2 w
     have hd2 : lex2 (cmpI T1 T2) (orL (([cmpI (fl t1) (fl t2), cmpI T1 T2, cmpI r1 r2, cmpI (fl f1) (fl f2), X5] : List Int).drop 2)) = R := hd.out
     clear hhr hd
     obtain ⟨cv, hcv⟩ : ∃ cv, cmpI T1 T2 = cv := ⟨_, rfl⟩
     rw [hcv] at NU hd2
     clear hcv
     by_cases e0 : cv = 0
     ·subst e0
      rw [lex2_z] at hd2
      replace hd2 := Lib.hid hd2
      go_wp2_with fail
      go_region_held3 (fun w' => w'.cell? ⟨nb, 2, none⟩ = some (.int .i64 T1) ∧ w'.cell? ⟨nb, 3, none⟩ = some (.int .i64 T2)) (first | exact ⟨z0, z1⟩ | go_keep) (first
       | (go_at_call 63; (with_reducible refine (NU _).mono ?_); rintro e wz ⟨rfl, rfl⟩))
      go_wp2_with fail
      go_roundw
      case rel => exact ⟨2, rfl, by omega, hd2, xr.drew⟩
      case measure => simp only [intOf]; omega
     ·have hd3 : cv = R := by rw [← hd2]; unfold lex2; rw [if_pos e0]
      subst hd3
      clear hd2
      go_wp2_with fail
      go_region_held3 (fun w' => w'.cell? ⟨nb, 2, none⟩ = some (.int .i64 T1) ∧ w'.cell? ⟨nb, 3, none⟩ = some (.int .i64 T2)) (first | exact ⟨z0, z1⟩ | go_keep) (first
       | (go_at_call 63; (with_reducible refine (NU _).mono ?_); rintro e wz ⟨rfl, rfl⟩))
      go_wp2_with fail
      go_ret
      exact ⟨rfl, hx1.trans xr.drew⟩
    ·have z0 : wr.drew.cell? ⟨nb, 4, none⟩ = some (.int .i64 r1) := by rw [World.cell?_drew, Lib.cell_of_heap hhr]; rfl
     have z1 : wr.drew.cell? ⟨nb, 5, none⟩ = some (.int .i64 r2) := by rw [World.cell?_drew, Lib.cell_of_heap hhr]; rfl
     have NU := fun w => number_any r1 r2 w
     have hd2 : lex2 (cmpI r1 r2) (orL (([cmpI (fl t1) (fl t2), cmpI T1 T2, cmpI r1 r2, cmpI (fl f1) (fl f2), X5] : List Int).drop 3)) = R := hd.out
     clear hhr hd
     obtain ⟨cv, hcv⟩ : ∃ cv, cmpI r1 r2 = cv := ⟨_, rfl⟩
     rw [hcv] at NU hd2
     clear hcv
     by_cases e0 : cv = 0
     ·subst e0
      rw [lex2_z] at hd2
      replace hd2 := Lib.hid hd2
      go_wp2_with fail
      go_region_held3 (fun w' => w'.cell? ⟨nb, 4, none⟩ = some (.int .i64 r1) ∧ w'.cell? ⟨nb, 5, none⟩ = some (.int .i64 r2)) (first | exact ⟨z0, z1⟩ | go_keep) (first
       | (go_at_call 63; (with_reducible refine (NU _).mono ?_); rintro e wz ⟨rfl, rfl⟩))
      go_wp2_with fail
      go_roundw
      case rel => exact ⟨3, rfl, by omega, hd2, xr.drew⟩
      case measure => simp only [intOf]; omega
     ·have hd3 : cv = R := by rw [← hd2]; unfold lex2; rw [if_pos e0]
      subst hd3
      clear hd2
      go_wp2_with fail
      go_region_held3 (fun w' => w'.cell? ⟨nb, 4, none⟩ = some (.int .i64 r1) ∧ w'.cell? ⟨nb, 5, none⟩ = some (.int .i64 r2)) (first | exact ⟨z0, z1⟩ | go_keep) (first
       | (go_at_call 63; (with_reducible refine (NU _).mono ?_); rintro e wz ⟨rfl, rfl⟩))
      go_wp2_with fail
      go_ret
      exact ⟨rfl, hx1.trans xr.drew⟩
    ·have z0 : wr.drew.cell? ⟨nb, 6, none⟩ = some (.int .i64 (fl f1)) := by rw [World.cell?_drew, Lib.cell_of_heap hhr]; rfl
     have z1 : wr.drew.cell? ⟨nb, 7, none⟩ = some (.int .i64 (fl f2)) := by rw [World.cell?_drew, Lib.cell_of_heap hhr]; rfl
     have NU := fun w => number_any (fl f1) (fl f2) w
     have hd2 : lex2 (cmpI (fl f1) (fl f2)) (orL (([cmpI (fl t1) (fl t2), cmpI T1 T2, cmpI r1 r2, cmpI (fl f1) (fl f2), X5] : List Int).drop 4)) = R := hd.out
     clear hhr hd
     obtain ⟨cv, hcv⟩ : ∃ cv, cmpI (fl f1) (fl f2) = cv := ⟨_, rfl⟩
     rw [hcv] at NU hd2
     clear hcv
     by_cases e0 : cv = 0
     ·subst e0
      rw [lex2_z] at hd2
      replace hd2 := Lib.hid hd2
      go_wp2_with fail
      go_region_held3 (fun w' => w'.cell? ⟨nb, 6, none⟩ = some (.int .i64 (fl f1)) ∧ w'.cell? ⟨nb, 7, none⟩ = some (.int .i64 (fl f2))) (first | exact ⟨z0, z1⟩ | go_keep) (first
       | (go_at_call 63; (with_reducible refine (NU _).mono ?_); rintro e wz ⟨rfl, rfl⟩))
      go_wp2_with fail
      go_roundw
      case rel => exact ⟨4, rfl, by omega, hd2, xr.drew⟩
      case measure => simp only [intOf]; omega
     ·have hd3 : cv = R := by rw [← hd2]; unfold lex2; rw [if_pos e0]
      subst hd3
      clear hd2
      go_wp2_with fail
      go_region_held3 (fun w' => w'.cell? ⟨nb, 6, none⟩ = some (.int .i64 (fl f1)) ∧ w'.cell? ⟨nb, 7, none⟩ = some (.int .i64 (fl f2))) (first | exact ⟨z0, z1⟩ | go_keep) (first
       | (go_at_call 63; (with_reducible refine (NU _).mono ?_); rintro e wz ⟨rfl, rfl⟩))
      go_wp2_with fail
      go_ret
      exact ⟨rfl, hx1.trans xr.drew⟩
   ·obtain rfl : k = 4 := by omega
    have hd2 : X5 = R := by
     have := hd.out
     rw [← this]
     show X5 = lex2 X5 0
     exact (lex2_zero X5).symm
    subst hd2
    clear hd
    have q1 := (g1.ext xr).cells
    have q2 := (g2.ext xr).cells
    obtain ⟨k0, k1, k2, k3, k4, k5, k6, k7, k8⟩ := q1
    obtain ⟨p0, p1, p2, p3, p4, p5, p6, p7, p8⟩ := q2
    go_wp2_with fail
    (with_reducible refine (K6 _).mono ?_)
    rintro e w3 ⟨rfl, x3⟩
    go_wp2_with fail
    go_ret
    exact ⟨rfl, (hx1.trans xr).trans x3⟩
 ·have hR2 : X0 = R := by rw [← hR, orL_cons]; unfold lex2; rw [if_pos e0]
  subst hR2
  clear hR
  go_wp2_with fail
  go_ret
  exact ⟨rfl, hx1⟩
end Go.Proofs.YtjjnmefihdjglaaGreat
