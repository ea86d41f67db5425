import Derived.Test.YtjjnmefihdjglaaGreatPtG
set_option maxRecDepth 100000
set_option maxHeartbeats 64000000
set_option linter.all false
namespace Go.Proofs.YtjjnmefihdjglaaGreat
open Go.RowKit
set_option linter.unusedSimpArgs false in
theorem rPoint_1 (k : Int) (a : Option Addr) (c : Nat) (l : List (ByteArray × ByteArray)) (f : Bool) (M S m s : Int) (t : Bool) (T : Int) (w : World)
  (hl : (l.length : Int) ≤ 9223372036854775807) (hA : LabA a l w) (hz : ∀ x ∈ l,x.1.size ≤ 9223372036854775807 ∧ x.2.size ≤ 9223372036854775807) (i1 : I64 M) (j1 : I64 S) (i2 : I64 m) (j2 : I64 s) :
  Calls Tryz.prog 68 #[.int .i64 k,ptV (.slice a l.length c) 1 f M S m s t T] w fun e w' => e = .returned (.bool (goodPt k l 1 f M S m s t T)) ∧ Ext w w' := by
 have R1 := fun W => rHasRole_any k 1 W
 have R2 := fun W (x : Ext w W) => rLabels_any a c l W hl (hA.ext x) hz
 have R3 := fun W => RGood_any m s W i2 j2
 have R4 := fun W => RGood_any M S W i1 j1
 have R5 := fun W => RCompare_any M S 1 0 W i1 j1 (by unfold I64; omega) (by unfold I64; omega)
 have R6 := fun W => rIsTime_any T W
 have R7 := fun W (x : Ext w W) => rGet_any a c l (⟨#[108,101]⟩ : ByteArray) W hl (hA.ext x)
 have R8 := fun W (x : Ext w W) => rGet_any a c l (⟨#[113,117,97,110,116,105,108,101]⟩ : ByteArray) W hl (hA.ext x)
 obtain ⟨r1⟩ := cM_in M S i1
 obtain ⟨r2⟩ := cM_in 1 0 (by unfold I64; omega)
 rename_i e1 e2
 rw [← rcV_is _ _ _ _ e1 e2] at R5
 clear r1 r2 e1 e2
 obtain ⟨R,hR⟩ : ∃ R,goodPt k l 1 f M S m s t T = R := ⟨_,rfl⟩
 rw [hR]
 unfold goodPt boundB valB timeB freeB at hR
 have hT : T = 0 → (decide (-1125899906842624 ≤ T) && decide (T ≤ 1125899906842624)) = true := fun h => by subst h; decide
 generalize decide (1 ∈ rolesOf k) = b1 at *
 generalize goodLs l = b2 at *
 generalize goodB m s = gv at *
 generalize goodB M S = gb at *
 generalize cmpD (cM M S) (cS M S) (cM 1 0) (cS 1 0) = cv at *
 generalize (decide (-1125899906842624 ≤ T) && decide (T ≤ 1125899906842624)) = tb at *
 obtain ⟨g1,eg1⟩ : ∃ g,getL (⟨#[108,101]⟩ : ByteArray) l = g := ⟨_,rfl⟩
 obtain ⟨g2,eg2⟩ : ∃ g,getL (⟨#[113,117,97,110,116,105,108,101]⟩ : ByteArray) l = g := ⟨_,rfl⟩
 rw [eg1] at R7
 rw [eg2] at R8
 obtain ⟨g1a,g1b⟩ := g1
 obtain ⟨g2a,g2b⟩ := g2
 dsimp only at R7 R8
 replace eg1 := Lib.hid eg1
 replace eg2 := Lib.hid eg2
 replace hT := Lib.hid hT
 replace hR := Lib.hid hR
 obtain ⟨v,hv⟩ : ∃ v,Value.slice a l.length c = v := ⟨_,rfl⟩
 rw [hv] at R2 R7 R8
 rw [hv]
 unfold ptV
 unfold decV at *
 have hJ : Pt1 w w.heap.size v 1 f M S m s t T (w.alloc (.cells #[v,.int .i64 1,.bool f,.int .i64 M,.int .i64 S,.int .i64 m,.int .i64 s,.bool t,.int .i64 T] 40)) := ⟨(Ext.refl _).alloc _,heap_last _ _⟩
 clear hv hA hl hz i1 j1 i2 j2
 go_enter Tryz.func68,Tryz.ntmps68
 obtain ⟨k0,k1,k2,k3,k4,k5,k6,k7,k8⟩ := hJ.2.cells
 go_wp2_with fail
 go_at_call 98
 (with_reducible refine (R1 _).mono ?_)
 rintro e wz ⟨rfl,xz⟩
 clear k0 k1 k2 k3 k4 k5 k6 k7 k8
 replace hJ := hJ.ext xz
 clear xz
 obtain ⟨k0,k1,k2,k3,k4,k5,k6,k7,k8⟩ := hJ.2.cells
 cases b1
 ·have HV : false = R := by
   rw [← hR.out]
   simp [ownS,eg1.out,eg2.out]
  replace HV := Lib.hid HV
  clear hR
  go_wp2_with fail
  all_goals
   go_ret
   exact ⟨retB HV.out,hJ.1⟩
 ·go_wp2_with fail
  have hJe := hJ.1
  go_at_call 99
  (with_reducible refine (R2 _ hJe).mono ?_)
  rintro e wz ⟨rfl,xz⟩
  clear k0 k1 k2 k3 k4 k5 k6 k7 k8
  clear hJe
  replace hJ := hJ.ext xz
  clear xz
  obtain ⟨k0,k1,k2,k3,k4,k5,k6,k7,k8⟩ := hJ.2.cells
  cases b2
  ·have HV : false = R := by
    rw [← hR.out]
    simp [ownS,eg1.out,eg2.out]
   replace HV := Lib.hid HV
   clear hR
   go_wp2_with fail
   all_goals
    go_ret
    exact ⟨retB HV.out,hJ.1⟩
  ·cases f
   ·go_wp2_with fail
    go_at_call 93
    (with_reducible refine (R3 _).mono ?_)
    rintro e wz ⟨rfl,xz⟩
    clear k0 k1 k2 k3 k4 k5 k6 k7 k8
    replace hJ := hJ.ext xz
    clear xz
    obtain ⟨k0,k1,k2,k3,k4,k5,k6,k7,k8⟩ := hJ.2.cells
    cases gv
    ·have HV : false = R := by
      rw [← hR.out]
      simp [ownS,eg1.out,eg2.out]
     replace HV := Lib.hid HV
     clear hR
     go_wp2_with fail
     all_goals
      go_ret
      exact ⟨retB HV.out,hJ.1⟩
    ·go_wp2_with fail
     go_at_call 93
     (with_reducible refine (R4 _).mono ?_)
     rintro e wz ⟨rfl,xz⟩
     clear k0 k1 k2 k3 k4 k5 k6 k7 k8
     replace hJ := hJ.ext xz
     clear xz
     obtain ⟨k0,k1,k2,k3,k4,k5,k6,k7,k8⟩ := hJ.2.cells
     cases gb
     ·have HV : false = R := by
       rw [← hR.out]
       simp [ownS,eg1.out,eg2.out]
      replace HV := Lib.hid HV
      clear hR
      go_wp2_with fail
      all_goals
       go_ret
       exact ⟨retB HV.out,hJ.1⟩
     ·by_cases hm : 0 ≤ m
      ·have hm2 : ¬ m < 0 := by omega
       by_cases hT0 : T = 0
       ·subst hT0
        cases tb
        ·exact absurd (hT.out rfl) (by decide)
        cases t
        ·go_wp2_with fail
         go_at_call 100
         (with_reducible refine (R6 _).mono ?_)
         rintro e wz ⟨rfl,xz⟩
         clear k0 k1 k2 k3 k4 k5 k6 k7 k8
         replace hJ := hJ.ext xz
         clear xz
         obtain ⟨k0,k1,k2,k3,k4,k5,k6,k7,k8⟩ := hJ.2.cells
         go_wp2_with fail
         have hJe := hJ.1
         go_at_call 101
         (with_reducible refine (R7 _ hJe).mono ?_)
         rintro e wz ⟨rfl,xz⟩
         clear k0 k1 k2 k3 k4 k5 k6 k7 k8
         clear hJe
         replace hJ := hJ.ext xz
         clear xz
         obtain ⟨k0,k1,k2,k3,k4,k5,k6,k7,k8⟩ := hJ.2.cells
         go_wp2_with fail
         have hJe := hJ.1
         go_at_call 101
         (with_reducible refine (R8 _ hJe).mono ?_)
         rintro e wz ⟨rfl,xz⟩
         clear k0 k1 k2 k3 k4 k5 k6 k7 k8
         clear hJe
         replace hJ := hJ.ext xz
         clear xz
         obtain ⟨k0,k1,k2,k3,k4,k5,k6,k7,k8⟩ := hJ.2.cells
         have HV : (!g1b) = R := by
          rw [← hR.out]
          simp [ownS,eg1.out,eg2.out,hm]
         replace HV := Lib.hid HV
         clear hR eg1 eg2
         cases g1b <;> cases g2b
         all_goals
          go_wp2_with fail
          go_ret
          exact ⟨retB HV.out,hJ.1⟩
        ·go_wp2_with fail
         go_at_call 100
         (with_reducible refine (R6 _).mono ?_)
         rintro e wz ⟨rfl,xz⟩
         clear k0 k1 k2 k3 k4 k5 k6 k7 k8
         replace hJ := hJ.ext xz
         clear xz
         obtain ⟨k0,k1,k2,k3,k4,k5,k6,k7,k8⟩ := hJ.2.cells
         go_wp2_with fail
         have hJe := hJ.1
         go_at_call 101
         (with_reducible refine (R7 _ hJe).mono ?_)
         rintro e wz ⟨rfl,xz⟩
         clear k0 k1 k2 k3 k4 k5 k6 k7 k8
         clear hJe
         replace hJ := hJ.ext xz
         clear xz
         obtain ⟨k0,k1,k2,k3,k4,k5,k6,k7,k8⟩ := hJ.2.cells
         go_wp2_with fail
         have hJe := hJ.1
         go_at_call 101
         (with_reducible refine (R8 _ hJe).mono ?_)
         rintro e wz ⟨rfl,xz⟩
         clear k0 k1 k2 k3 k4 k5 k6 k7 k8
         clear hJe
         replace hJ := hJ.ext xz
         clear xz
         obtain ⟨k0,k1,k2,k3,k4,k5,k6,k7,k8⟩ := hJ.2.cells
         have HV : (!g1b) = R := by
          rw [← hR.out]
          simp [ownS,eg1.out,eg2.out,hm]
         replace HV := Lib.hid HV
         clear hR eg1 eg2
         cases g1b <;> cases g2b
         all_goals
          go_wp2_with fail
          go_ret
          exact ⟨retB HV.out,hJ.1⟩
       ·cases t
        ·have HV : false = R := by
          rw [← hR.out]
          simp [ownS,eg1.out,eg2.out,hm,hT0]
         replace HV := Lib.hid HV
         clear hR
         go_wp2_with fail
         all_goals
          go_ret
          exact ⟨retB HV.out,hJ.1⟩
        ·go_wp2_with fail
         go_at_call 100
         (with_reducible refine (R6 _).mono ?_)
         rintro e wz ⟨rfl,xz⟩
         clear k0 k1 k2 k3 k4 k5 k6 k7 k8
         replace hJ := hJ.ext xz
         clear xz
         obtain ⟨k0,k1,k2,k3,k4,k5,k6,k7,k8⟩ := hJ.2.cells
         cases tb
         ·have HV : false = R := by
           rw [← hR.out]
           simp [ownS,eg1.out,eg2.out,hm,hT0]
          replace HV := Lib.hid HV
          clear hR
          go_wp2_with fail
          all_goals
           go_ret
           exact ⟨retB HV.out,hJ.1⟩
         ·go_wp2_with fail
          have hJe := hJ.1
          go_at_call 101
          (with_reducible refine (R7 _ hJe).mono ?_)
          rintro e wz ⟨rfl,xz⟩
          clear k0 k1 k2 k3 k4 k5 k6 k7 k8
          clear hJe
          replace hJ := hJ.ext xz
          clear xz
          obtain ⟨k0,k1,k2,k3,k4,k5,k6,k7,k8⟩ := hJ.2.cells
          go_wp2_with fail
          have hJe := hJ.1
          go_at_call 101
          (with_reducible refine (R8 _ hJe).mono ?_)
          rintro e wz ⟨rfl,xz⟩
          clear k0 k1 k2 k3 k4 k5 k6 k7 k8
          clear hJe
          replace hJ := hJ.ext xz
          clear xz
          obtain ⟨k0,k1,k2,k3,k4,k5,k6,k7,k8⟩ := hJ.2.cells
          have HV : (!g1b) = R := by
           rw [← hR.out]
           simp [ownS,eg1.out,eg2.out,hm,hT0]
          replace HV := Lib.hid HV
          clear hR eg1 eg2
          cases g1b <;> cases g2b
          all_goals
           go_wp2_with fail
           go_ret
           exact ⟨retB HV.out,hJ.1⟩
      ·have hm2 : m < 0 := by omega
       have HV : false = R := by
        rw [← hR.out]
        simp [ownS,eg1.out,eg2.out,hm]
       replace HV := Lib.hid HV
       clear hR
       go_wp2_with fail
       all_goals
        go_ret
        exact ⟨retB HV.out,hJ.1⟩
   ·go_wp2_with fail
    go_at_call 93
    (with_reducible refine (R3 _).mono ?_)
    rintro e wz ⟨rfl,xz⟩
    clear k0 k1 k2 k3 k4 k5 k6 k7 k8
    replace hJ := hJ.ext xz
    clear xz
    obtain ⟨k0,k1,k2,k3,k4,k5,k6,k7,k8⟩ := hJ.2.cells
    cases gv
    ·have HV : false = R := by
      rw [← hR.out]
      simp [ownS,eg1.out,eg2.out]
     replace HV := Lib.hid HV
     clear hR
     go_wp2_with fail
     all_goals
      go_ret
      exact ⟨retB HV.out,hJ.1⟩
    ·by_cases hM : M = 0
     ·subst hM
      by_cases hS : S = 0
      ·subst hS
       by_cases hm : 0 ≤ m
       ·have hm2 : ¬ m < 0 := by omega
        by_cases hT0 : T = 0
        ·subst hT0
         cases tb
         ·exact absurd (hT.out rfl) (by decide)
         cases t
         ·go_wp2_with fail
          go_at_call 100
          (with_reducible refine (R6 _).mono ?_)
          rintro e wz ⟨rfl,xz⟩
          clear k0 k1 k2 k3 k4 k5 k6 k7 k8
          replace hJ := hJ.ext xz
          clear xz
          obtain ⟨k0,k1,k2,k3,k4,k5,k6,k7,k8⟩ := hJ.2.cells
          go_wp2_with fail
          have hJe := hJ.1
          go_at_call 101
          (with_reducible refine (R7 _ hJe).mono ?_)
          rintro e wz ⟨rfl,xz⟩
          clear k0 k1 k2 k3 k4 k5 k6 k7 k8
          clear hJe
          replace hJ := hJ.ext xz
          clear xz
          obtain ⟨k0,k1,k2,k3,k4,k5,k6,k7,k8⟩ := hJ.2.cells
          go_wp2_with fail
          have hJe := hJ.1
          go_at_call 101
          (with_reducible refine (R8 _ hJe).mono ?_)
          rintro e wz ⟨rfl,xz⟩
          clear k0 k1 k2 k3 k4 k5 k6 k7 k8
          clear hJe
          replace hJ := hJ.ext xz
          clear xz
          obtain ⟨k0,k1,k2,k3,k4,k5,k6,k7,k8⟩ := hJ.2.cells
          have HV : (!g1b) = R := by
           rw [← hR.out]
           simp [ownS,eg1.out,eg2.out,hm]
          replace HV := Lib.hid HV
          clear hR eg1 eg2
          cases g1b <;> cases g2b
          all_goals
           go_wp2_with fail
           go_ret
           exact ⟨retB HV.out,hJ.1⟩
         ·go_wp2_with fail
          go_at_call 100
          (with_reducible refine (R6 _).mono ?_)
          rintro e wz ⟨rfl,xz⟩
          clear k0 k1 k2 k3 k4 k5 k6 k7 k8
          replace hJ := hJ.ext xz
          clear xz
          obtain ⟨k0,k1,k2,k3,k4,k5,k6,k7,k8⟩ := hJ.2.cells
          go_wp2_with fail
          have hJe := hJ.1
          go_at_call 101
          (with_reducible refine (R7 _ hJe).mono ?_)
          rintro e wz ⟨rfl,xz⟩
          clear k0 k1 k2 k3 k4 k5 k6 k7 k8
          clear hJe
          replace hJ := hJ.ext xz
          clear xz
          obtain ⟨k0,k1,k2,k3,k4,k5,k6,k7,k8⟩ := hJ.2.cells
          go_wp2_with fail
          have hJe := hJ.1
          go_at_call 101
          (with_reducible refine (R8 _ hJe).mono ?_)
          rintro e wz ⟨rfl,xz⟩
          clear k0 k1 k2 k3 k4 k5 k6 k7 k8
          clear hJe
          replace hJ := hJ.ext xz
          clear xz
          obtain ⟨k0,k1,k2,k3,k4,k5,k6,k7,k8⟩ := hJ.2.cells
          have HV : (!g1b) = R := by
           rw [← hR.out]
           simp [ownS,eg1.out,eg2.out,hm]
          replace HV := Lib.hid HV
          clear hR eg1 eg2
          cases g1b <;> cases g2b
          all_goals
           go_wp2_with fail
           go_ret
           exact ⟨retB HV.out,hJ.1⟩
        ·cases t
         ·have HV : false = R := by
           rw [← hR.out]
           simp [ownS,eg1.out,eg2.out,hm,hT0]
          replace HV := Lib.hid HV
          clear hR
          go_wp2_with fail
          all_goals
           go_ret
           exact ⟨retB HV.out,hJ.1⟩
         ·go_wp2_with fail
          go_at_call 100
          (with_reducible refine (R6 _).mono ?_)
          rintro e wz ⟨rfl,xz⟩
          clear k0 k1 k2 k3 k4 k5 k6 k7 k8
          replace hJ := hJ.ext xz
          clear xz
          obtain ⟨k0,k1,k2,k3,k4,k5,k6,k7,k8⟩ := hJ.2.cells
          cases tb
          ·have HV : false = R := by
            rw [← hR.out]
            simp [ownS,eg1.out,eg2.out,hm,hT0]
           replace HV := Lib.hid HV
           clear hR
           go_wp2_with fail
           all_goals
            go_ret
            exact ⟨retB HV.out,hJ.1⟩
          ·go_wp2_with fail
           have hJe := hJ.1
           go_at_call 101
           (with_reducible refine (R7 _ hJe).mono ?_)
           rintro e wz ⟨rfl,xz⟩
           clear k0 k1 k2 k3 k4 k5 k6 k7 k8
           clear hJe
           replace hJ := hJ.ext xz
           clear xz
           obtain ⟨k0,k1,k2,k3,k4,k5,k6,k7,k8⟩ := hJ.2.cells
           go_wp2_with fail
           have hJe := hJ.1
           go_at_call 101
           (with_reducible refine (R8 _ hJe).mono ?_)
           rintro e wz ⟨rfl,xz⟩
           clear k0 k1 k2 k3 k4 k5 k6 k7 k8
           clear hJe
           replace hJ := hJ.ext xz
           clear xz
           obtain ⟨k0,k1,k2,k3,k4,k5,k6,k7,k8⟩ := hJ.2.cells
           have HV : (!g1b) = R := by
            rw [← hR.out]
            simp [ownS,eg1.out,eg2.out,hm,hT0]
           replace HV := Lib.hid HV
           clear hR eg1 eg2
           cases g1b <;> cases g2b
           all_goals
            go_wp2_with fail
            go_ret
            exact ⟨retB HV.out,hJ.1⟩
       ·have hm2 : m < 0 := by omega
        have HV : false = R := by
         rw [← hR.out]
         simp [ownS,eg1.out,eg2.out,hm]
        replace HV := Lib.hid HV
        clear hR
        go_wp2_with fail
        all_goals
         go_ret
         exact ⟨retB HV.out,hJ.1⟩
      ·have HV : false = R := by
        rw [← hR.out]
        simp [ownS,eg1.out,eg2.out,hS]
       replace HV := Lib.hid HV
       clear hR
       go_wp2_with fail
       all_goals
        go_ret
        exact ⟨retB HV.out,hJ.1⟩
     ·have HV : false = R := by
       rw [← hR.out]
       simp [ownS,eg1.out,eg2.out,hM]
      replace HV := Lib.hid HV
      clear hR
      go_wp2_with fail
      all_goals
       go_ret
       exact ⟨retB HV.out,hJ.1⟩
set_option linter.unusedSimpArgs false in
theorem rPoint_2 (k : Int) (a : Option Addr) (c : Nat) (l : List (ByteArray × ByteArray)) (f : Bool) (M S m s : Int) (t : Bool) (T : Int) (w : World)
  (hl : (l.length : Int) ≤ 9223372036854775807) (hA : LabA a l w) (hz : ∀ x ∈ l,x.1.size ≤ 9223372036854775807 ∧ x.2.size ≤ 9223372036854775807) (i1 : I64 M) (j1 : I64 S) (i2 : I64 m) (j2 : I64 s) :
  Calls Tryz.prog 68 #[.int .i64 k,ptV (.slice a l.length c) 2 f M S m s t T] w fun e w' => e = .returned (.bool (goodPt k l 2 f M S m s t T)) ∧ Ext w w' := by
 have R1 := fun W => rHasRole_any k 2 W
 have R2 := fun W (x : Ext w W) => rLabels_any a c l W hl (hA.ext x) hz
 have R3 := fun W => RGood_any m s W i2 j2
 have R4 := fun W => RGood_any M S W i1 j1
 have R5 := fun W => RCompare_any M S 1 0 W i1 j1 (by unfold I64; omega) (by unfold I64; omega)
 have R6 := fun W => rIsTime_any T W
 have R7 := fun W (x : Ext w W) => rGet_any a c l (⟨#[108,101]⟩ : ByteArray) W hl (hA.ext x)
 have R8 := fun W (x : Ext w W) => rGet_any a c l (⟨#[113,117,97,110,116,105,108,101]⟩ : ByteArray) W hl (hA.ext x)
 obtain ⟨r1⟩ := cM_in M S i1
 obtain ⟨r2⟩ := cM_in 1 0 (by unfold I64; omega)
 rename_i e1 e2
 rw [← rcV_is _ _ _ _ e1 e2] at R5
 clear r1 r2 e1 e2
 obtain ⟨R,hR⟩ : ∃ R,goodPt k l 2 f M S m s t T = R := ⟨_,rfl⟩
 rw [hR]
 unfold goodPt boundB valB timeB freeB at hR
 have hT : T = 0 → (decide (-1125899906842624 ≤ T) && decide (T ≤ 1125899906842624)) = true := fun h => by subst h; decide
 generalize decide (2 ∈ rolesOf k) = b1 at *
 generalize goodLs l = b2 at *
 generalize goodB m s = gv at *
 generalize goodB M S = gb at *
 generalize cmpD (cM M S) (cS M S) (cM 1 0) (cS 1 0) = cv at *
 generalize (decide (-1125899906842624 ≤ T) && decide (T ≤ 1125899906842624)) = tb at *
 obtain ⟨g1,eg1⟩ : ∃ g,getL (⟨#[108,101]⟩ : ByteArray) l = g := ⟨_,rfl⟩
 obtain ⟨g2,eg2⟩ : ∃ g,getL (⟨#[113,117,97,110,116,105,108,101]⟩ : ByteArray) l = g := ⟨_,rfl⟩
 rw [eg1] at R7
 rw [eg2] at R8
 obtain ⟨g1a,g1b⟩ := g1
 obtain ⟨g2a,g2b⟩ := g2
 dsimp only at R7 R8
 replace eg1 := Lib.hid eg1
 replace eg2 := Lib.hid eg2
 replace hT := Lib.hid hT
 replace hR := Lib.hid hR
 obtain ⟨v,hv⟩ : ∃ v,Value.slice a l.length c = v := ⟨_,rfl⟩
 rw [hv] at R2 R7 R8
 rw [hv]
 unfold ptV
 unfold decV at *
 have hJ : Pt1 w w.heap.size v 2 f M S m s t T (w.alloc (.cells #[v,.int .i64 2,.bool f,.int .i64 M,.int .i64 S,.int .i64 m,.int .i64 s,.bool t,.int .i64 T] 40)) := ⟨(Ext.refl _).alloc _,heap_last _ _⟩
 clear hv hA hl hz i1 j1 i2 j2
 go_enter Tryz.func68,Tryz.ntmps68
 obtain ⟨k0,k1,k2,k3,k4,k5,k6,k7,k8⟩ := hJ.2.cells
 go_wp2_with fail
 go_at_call 98
 (with_reducible refine (R1 _).mono ?_)
 rintro e wz ⟨rfl,xz⟩
 clear k0 k1 k2 k3 k4 k5 k6 k7 k8
 replace hJ := hJ.ext xz
 clear xz
 obtain ⟨k0,k1,k2,k3,k4,k5,k6,k7,k8⟩ := hJ.2.cells
 cases b1
 ·have HV : false = R := by
   rw [← hR.out]
   simp [ownS,eg1.out,eg2.out]
  replace HV := Lib.hid HV
  clear hR
  go_wp2_with fail
  all_goals
   go_ret
   exact ⟨retB HV.out,hJ.1⟩
 ·go_wp2_with fail
  have hJe := hJ.1
  go_at_call 99
  (with_reducible refine (R2 _ hJe).mono ?_)
  rintro e wz ⟨rfl,xz⟩
  clear k0 k1 k2 k3 k4 k5 k6 k7 k8
  clear hJe
  replace hJ := hJ.ext xz
  clear xz
  obtain ⟨k0,k1,k2,k3,k4,k5,k6,k7,k8⟩ := hJ.2.cells
  cases b2
  ·have HV : false = R := by
    rw [← hR.out]
    simp [ownS,eg1.out,eg2.out]
   replace HV := Lib.hid HV
   clear hR
   go_wp2_with fail
   all_goals
    go_ret
    exact ⟨retB HV.out,hJ.1⟩
  ·cases f
   ·go_wp2_with fail
    go_at_call 93
    (with_reducible refine (R3 _).mono ?_)
    rintro e wz ⟨rfl,xz⟩
    clear k0 k1 k2 k3 k4 k5 k6 k7 k8
    replace hJ := hJ.ext xz
    clear xz
    obtain ⟨k0,k1,k2,k3,k4,k5,k6,k7,k8⟩ := hJ.2.cells
    cases gv
    ·have HV : false = R := by
      rw [← hR.out]
      simp [ownS,eg1.out,eg2.out]
     replace HV := Lib.hid HV
     clear hR
     go_wp2_with fail
     all_goals
      go_ret
      exact ⟨retB HV.out,hJ.1⟩
    ·go_wp2_with fail
     go_at_call 93
     (with_reducible refine (R4 _).mono ?_)
     rintro e wz ⟨rfl,xz⟩
     clear k0 k1 k2 k3 k4 k5 k6 k7 k8
     replace hJ := hJ.ext xz
     clear xz
     obtain ⟨k0,k1,k2,k3,k4,k5,k6,k7,k8⟩ := hJ.2.cells
     cases gb
     ·have HV : false = R := by
       rw [← hR.out]
       simp [ownS,eg1.out,eg2.out]
      replace HV := Lib.hid HV
      clear hR
      go_wp2_with fail
      all_goals
       go_ret
       exact ⟨retB HV.out,hJ.1⟩
     ·by_cases hM : 0 ≤ M
      ·have hM2 : ¬ M < 0 := by omega
       go_wp2_with fail
       go_at_call 64
       (with_reducible refine (R5 _).mono ?_)
       rintro e wz ⟨rfl,xz⟩
       clear k0 k1 k2 k3 k4 k5 k6 k7 k8
       replace hJ := hJ.ext xz
       clear xz
       obtain ⟨k0,k1,k2,k3,k4,k5,k6,k7,k8⟩ := hJ.2.cells
       by_cases hc : cv ≤ 0
       ·have hc2 : ¬ cv > 0 := by omega
        by_cases hm : 0 ≤ m
        ·have hm2 : ¬ m < 0 := by omega
         by_cases hT0 : T = 0
         ·subst hT0
          cases tb
          ·exact absurd (hT.out rfl) (by decide)
          cases t
          ·go_wp2_with fail
           go_at_call 100
           (with_reducible refine (R6 _).mono ?_)
           rintro e wz ⟨rfl,xz⟩
           clear k0 k1 k2 k3 k4 k5 k6 k7 k8
           replace hJ := hJ.ext xz
           clear xz
           obtain ⟨k0,k1,k2,k3,k4,k5,k6,k7,k8⟩ := hJ.2.cells
           go_wp2_with fail
           have hJe := hJ.1
           go_at_call 101
           (with_reducible refine (R7 _ hJe).mono ?_)
           rintro e wz ⟨rfl,xz⟩
           clear k0 k1 k2 k3 k4 k5 k6 k7 k8
           clear hJe
           replace hJ := hJ.ext xz
           clear xz
           obtain ⟨k0,k1,k2,k3,k4,k5,k6,k7,k8⟩ := hJ.2.cells
           go_wp2_with fail
           have hJe := hJ.1
           go_at_call 101
           (with_reducible refine (R8 _ hJe).mono ?_)
           rintro e wz ⟨rfl,xz⟩
           clear k0 k1 k2 k3 k4 k5 k6 k7 k8
           clear hJe
           replace hJ := hJ.ext xz
           clear xz
           obtain ⟨k0,k1,k2,k3,k4,k5,k6,k7,k8⟩ := hJ.2.cells
           have HV : (!g2b) = R := by
            rw [← hR.out]
            simp [ownS,eg1.out,eg2.out,hM,hc,hm]
           replace HV := Lib.hid HV
           clear hR eg1 eg2
           cases g1b <;> cases g2b
           all_goals
            go_wp2_with fail
            go_ret
            exact ⟨retB HV.out,hJ.1⟩
          ·go_wp2_with fail
           go_at_call 100
           (with_reducible refine (R6 _).mono ?_)
           rintro e wz ⟨rfl,xz⟩
           clear k0 k1 k2 k3 k4 k5 k6 k7 k8
           replace hJ := hJ.ext xz
           clear xz
           obtain ⟨k0,k1,k2,k3,k4,k5,k6,k7,k8⟩ := hJ.2.cells
           go_wp2_with fail
           have hJe := hJ.1
           go_at_call 101
           (with_reducible refine (R7 _ hJe).mono ?_)
           rintro e wz ⟨rfl,xz⟩
           clear k0 k1 k2 k3 k4 k5 k6 k7 k8
           clear hJe
           replace hJ := hJ.ext xz
           clear xz
           obtain ⟨k0,k1,k2,k3,k4,k5,k6,k7,k8⟩ := hJ.2.cells
           go_wp2_with fail
           have hJe := hJ.1
           go_at_call 101
           (with_reducible refine (R8 _ hJe).mono ?_)
           rintro e wz ⟨rfl,xz⟩
           clear k0 k1 k2 k3 k4 k5 k6 k7 k8
           clear hJe
           replace hJ := hJ.ext xz
           clear xz
           obtain ⟨k0,k1,k2,k3,k4,k5,k6,k7,k8⟩ := hJ.2.cells
           have HV : (!g2b) = R := by
            rw [← hR.out]
            simp [ownS,eg1.out,eg2.out,hM,hc,hm]
           replace HV := Lib.hid HV
           clear hR eg1 eg2
           cases g1b <;> cases g2b
           all_goals
            go_wp2_with fail
            go_ret
            exact ⟨retB HV.out,hJ.1⟩
         ·cases t
          ·have HV : false = R := by
            rw [← hR.out]
            simp [ownS,eg1.out,eg2.out,hM,hc,hm,hT0]
           replace HV := Lib.hid HV
           clear hR
           go_wp2_with fail
           all_goals
            go_ret
            exact ⟨retB HV.out,hJ.1⟩
          ·go_wp2_with fail
           go_at_call 100
           (with_reducible refine (R6 _).mono ?_)
           rintro e wz ⟨rfl,xz⟩
           clear k0 k1 k2 k3 k4 k5 k6 k7 k8
           replace hJ := hJ.ext xz
           clear xz
           obtain ⟨k0,k1,k2,k3,k4,k5,k6,k7,k8⟩ := hJ.2.cells
           cases tb
           ·have HV : false = R := by
             rw [← hR.out]
             simp [ownS,eg1.out,eg2.out,hM,hc,hm,hT0]
            replace HV := Lib.hid HV
            clear hR
            go_wp2_with fail
            all_goals
             go_ret
             exact ⟨retB HV.out,hJ.1⟩
           ·go_wp2_with fail
            have hJe := hJ.1
            go_at_call 101
            (with_reducible refine (R7 _ hJe).mono ?_)
            rintro e wz ⟨rfl,xz⟩
            clear k0 k1 k2 k3 k4 k5 k6 k7 k8
            clear hJe
            replace hJ := hJ.ext xz
            clear xz
            obtain ⟨k0,k1,k2,k3,k4,k5,k6,k7,k8⟩ := hJ.2.cells
            go_wp2_with fail
            have hJe := hJ.1
            go_at_call 101
            (with_reducible refine (R8 _ hJe).mono ?_)
            rintro e wz ⟨rfl,xz⟩
            clear k0 k1 k2 k3 k4 k5 k6 k7 k8
            clear hJe
            replace hJ := hJ.ext xz
            clear xz
            obtain ⟨k0,k1,k2,k3,k4,k5,k6,k7,k8⟩ := hJ.2.cells
            have HV : (!g2b) = R := by
             rw [← hR.out]
             simp [ownS,eg1.out,eg2.out,hM,hc,hm,hT0]
            replace HV := Lib.hid HV
            clear hR eg1 eg2
            cases g1b <;> cases g2b
            all_goals
             go_wp2_with fail
             go_ret
             exact ⟨retB HV.out,hJ.1⟩
        ·have hm2 : m < 0 := by omega
         by_cases hk2 : k = 2
         ·subst hk2
          have HV : false = R := by
           rw [← hR.out]
           simp [ownS,eg1.out,eg2.out,hM,hc,hm]
          replace HV := Lib.hid HV
          clear hR
          go_wp2_with fail
          all_goals
           go_ret
           exact ⟨retB HV.out,hJ.1⟩
         ·by_cases hT0 : T = 0
          ·subst hT0
           cases tb
           ·exact absurd (hT.out rfl) (by decide)
           cases t
           ·go_wp2_with fail
            go_at_call 100
            (with_reducible refine (R6 _).mono ?_)
            rintro e wz ⟨rfl,xz⟩
            clear k0 k1 k2 k3 k4 k5 k6 k7 k8
            replace hJ := hJ.ext xz
            clear xz
            obtain ⟨k0,k1,k2,k3,k4,k5,k6,k7,k8⟩ := hJ.2.cells
            go_wp2_with fail
            have hJe := hJ.1
            go_at_call 101
            (with_reducible refine (R7 _ hJe).mono ?_)
            rintro e wz ⟨rfl,xz⟩
            clear k0 k1 k2 k3 k4 k5 k6 k7 k8
            clear hJe
            replace hJ := hJ.ext xz
            clear xz
            obtain ⟨k0,k1,k2,k3,k4,k5,k6,k7,k8⟩ := hJ.2.cells
            go_wp2_with fail
            have hJe := hJ.1
            go_at_call 101
            (with_reducible refine (R8 _ hJe).mono ?_)
            rintro e wz ⟨rfl,xz⟩
            clear k0 k1 k2 k3 k4 k5 k6 k7 k8
            clear hJe
            replace hJ := hJ.ext xz
            clear xz
            obtain ⟨k0,k1,k2,k3,k4,k5,k6,k7,k8⟩ := hJ.2.cells
            have HV : (!g2b) = R := by
             rw [← hR.out]
             simp [ownS,eg1.out,eg2.out,hM,hc,hm,hk2]
            replace HV := Lib.hid HV
            clear hR eg1 eg2
            cases g1b <;> cases g2b
            all_goals
             go_wp2_with fail
             go_ret
             exact ⟨retB HV.out,hJ.1⟩
           ·go_wp2_with fail
            go_at_call 100
            (with_reducible refine (R6 _).mono ?_)
            rintro e wz ⟨rfl,xz⟩
            clear k0 k1 k2 k3 k4 k5 k6 k7 k8
            replace hJ := hJ.ext xz
            clear xz
            obtain ⟨k0,k1,k2,k3,k4,k5,k6,k7,k8⟩ := hJ.2.cells
            go_wp2_with fail
            have hJe := hJ.1
            go_at_call 101
            (with_reducible refine (R7 _ hJe).mono ?_)
            rintro e wz ⟨rfl,xz⟩
            clear k0 k1 k2 k3 k4 k5 k6 k7 k8
            clear hJe
            replace hJ := hJ.ext xz
            clear xz
            obtain ⟨k0,k1,k2,k3,k4,k5,k6,k7,k8⟩ := hJ.2.cells
            go_wp2_with fail
            have hJe := hJ.1
            go_at_call 101
            (with_reducible refine (R8 _ hJe).mono ?_)
            rintro e wz ⟨rfl,xz⟩
            clear k0 k1 k2 k3 k4 k5 k6 k7 k8
            clear hJe
            replace hJ := hJ.ext xz
            clear xz
            obtain ⟨k0,k1,k2,k3,k4,k5,k6,k7,k8⟩ := hJ.2.cells
            have HV : (!g2b) = R := by
             rw [← hR.out]
             simp [ownS,eg1.out,eg2.out,hM,hc,hm,hk2]
            replace HV := Lib.hid HV
            clear hR eg1 eg2
            cases g1b <;> cases g2b
            all_goals
             go_wp2_with fail
             go_ret
             exact ⟨retB HV.out,hJ.1⟩
          ·cases t
           ·have HV : false = R := by
             rw [← hR.out]
             simp [ownS,eg1.out,eg2.out,hM,hc,hm,hk2,hT0]
            replace HV := Lib.hid HV
            clear hR
            go_wp2_with fail
            all_goals
             go_ret
             exact ⟨retB HV.out,hJ.1⟩
           ·go_wp2_with fail
            go_at_call 100
            (with_reducible refine (R6 _).mono ?_)
            rintro e wz ⟨rfl,xz⟩
            clear k0 k1 k2 k3 k4 k5 k6 k7 k8
            replace hJ := hJ.ext xz
            clear xz
            obtain ⟨k0,k1,k2,k3,k4,k5,k6,k7,k8⟩ := hJ.2.cells
            cases tb
            ·have HV : false = R := by
              rw [← hR.out]
              simp [ownS,eg1.out,eg2.out,hM,hc,hm,hk2,hT0]
             replace HV := Lib.hid HV
             clear hR
             go_wp2_with fail
             all_goals
              go_ret
              exact ⟨retB HV.out,hJ.1⟩
            ·go_wp2_with fail
             have hJe := hJ.1
             go_at_call 101
             (with_reducible refine (R7 _ hJe).mono ?_)
             rintro e wz ⟨rfl,xz⟩
             clear k0 k1 k2 k3 k4 k5 k6 k7 k8
             clear hJe
             replace hJ := hJ.ext xz
             clear xz
             obtain ⟨k0,k1,k2,k3,k4,k5,k6,k7,k8⟩ := hJ.2.cells
             go_wp2_with fail
             have hJe := hJ.1
             go_at_call 101
             (with_reducible refine (R8 _ hJe).mono ?_)
             rintro e wz ⟨rfl,xz⟩
             clear k0 k1 k2 k3 k4 k5 k6 k7 k8
             clear hJe
             replace hJ := hJ.ext xz
             clear xz
             obtain ⟨k0,k1,k2,k3,k4,k5,k6,k7,k8⟩ := hJ.2.cells
             have HV : (!g2b) = R := by
              rw [← hR.out]
              simp [ownS,eg1.out,eg2.out,hM,hc,hm,hk2,hT0]
             replace HV := Lib.hid HV
             clear hR eg1 eg2
             cases g1b <;> cases g2b
             all_goals
              go_wp2_with fail
              go_ret
              exact ⟨retB HV.out,hJ.1⟩
       ·have hc2 : cv > 0 := by omega
        have HV : false = R := by
         rw [← hR.out]
         simp [ownS,eg1.out,eg2.out,hM,hc]
        replace HV := Lib.hid HV
        clear hR
        go_wp2_with fail
        all_goals
         go_ret
         exact ⟨retB HV.out,hJ.1⟩
      ·have hM2 : M < 0 := by omega
       have HV : false = R := by
        rw [← hR.out]
        simp [ownS,eg1.out,eg2.out,hM]
       replace HV := Lib.hid HV
       clear hR
       go_wp2_with fail
       all_goals
        go_ret
        exact ⟨retB HV.out,hJ.1⟩
   ·have HV : false = R := by
     rw [← hR.out]
     simp [ownS,eg1.out,eg2.out]
    replace HV := Lib.hid HV
    clear hR
    go_wp2_with fail
    all_goals
     go_ret
     exact ⟨retB HV.out,hJ.1⟩
set_option linter.unusedSimpArgs false in
theorem rPoint_3 (k : Int) (a : Option Addr) (c : Nat) (l : List (ByteArray × ByteArray)) (f : Bool) (M S m s : Int) (t : Bool) (T : Int) (w : World)
  (hl : (l.length : Int) ≤ 9223372036854775807) (hA : LabA a l w) (hz : ∀ x ∈ l,x.1.size ≤ 9223372036854775807 ∧ x.2.size ≤ 9223372036854775807) (i1 : I64 M) (j1 : I64 S) (i2 : I64 m) (j2 : I64 s) :
  Calls Tryz.prog 68 #[.int .i64 k,ptV (.slice a l.length c) 3 f M S m s t T] w fun e w' => e = .returned (.bool (goodPt k l 3 f M S m s t T)) ∧ Ext w w' := by
 have R1 := fun W => rHasRole_any k 3 W
 have R2 := fun W (x : Ext w W) => rLabels_any a c l W hl (hA.ext x) hz
 have R3 := fun W => RGood_any m s W i2 j2
 have R4 := fun W => RGood_any M S W i1 j1
 have R5 := fun W => RCompare_any M S 1 0 W i1 j1 (by unfold I64; omega) (by unfold I64; omega)
 have R6 := fun W => rIsTime_any T W
 have R7 := fun W (x : Ext w W) => rGet_any a c l (⟨#[108,101]⟩ : ByteArray) W hl (hA.ext x)
 have R8 := fun W (x : Ext w W) => rGet_any a c l (⟨#[113,117,97,110,116,105,108,101]⟩ : ByteArray) W hl (hA.ext x)
 obtain ⟨r1⟩ := cM_in M S i1
 obtain ⟨r2⟩ := cM_in 1 0 (by unfold I64; omega)
 rename_i e1 e2
 rw [← rcV_is _ _ _ _ e1 e2] at R5
 clear r1 r2 e1 e2
 obtain ⟨R,hR⟩ : ∃ R,goodPt k l 3 f M S m s t T = R := ⟨_,rfl⟩
 rw [hR]
 unfold goodPt boundB valB timeB freeB at hR
 have hT : T = 0 → (decide (-1125899906842624 ≤ T) && decide (T ≤ 1125899906842624)) = true := fun h => by subst h; decide
 generalize decide (3 ∈ rolesOf k) = b1 at *
 generalize goodLs l = b2 at *
 generalize goodB m s = gv at *
 generalize goodB M S = gb at *
 generalize cmpD (cM M S) (cS M S) (cM 1 0) (cS 1 0) = cv at *
 generalize (decide (-1125899906842624 ≤ T) && decide (T ≤ 1125899906842624)) = tb at *
 obtain ⟨g1,eg1⟩ : ∃ g,getL (⟨#[108,101]⟩ : ByteArray) l = g := ⟨_,rfl⟩
 obtain ⟨g2,eg2⟩ : ∃ g,getL (⟨#[113,117,97,110,116,105,108,101]⟩ : ByteArray) l = g := ⟨_,rfl⟩
 rw [eg1] at R7
 rw [eg2] at R8
 obtain ⟨g1a,g1b⟩ := g1
 obtain ⟨g2a,g2b⟩ := g2
 dsimp only at R7 R8
 replace eg1 := Lib.hid eg1
 replace eg2 := Lib.hid eg2
 replace hT := Lib.hid hT
 replace hR := Lib.hid hR
 obtain ⟨v,hv⟩ : ∃ v,Value.slice a l.length c = v := ⟨_,rfl⟩
 rw [hv] at R2 R7 R8
 rw [hv]
 unfold ptV
 unfold decV at *
 have hJ : Pt1 w w.heap.size v 3 f M S m s t T (w.alloc (.cells #[v,.int .i64 3,.bool f,.int .i64 M,.int .i64 S,.int .i64 m,.int .i64 s,.bool t,.int .i64 T] 40)) := ⟨(Ext.refl _).alloc _,heap_last _ _⟩
 clear hv hA hl hz i1 j1 i2 j2
 go_enter Tryz.func68,Tryz.ntmps68
 obtain ⟨k0,k1,k2,k3,k4,k5,k6,k7,k8⟩ := hJ.2.cells
 go_wp2_with fail
 go_at_call 98
 (with_reducible refine (R1 _).mono ?_)
 rintro e wz ⟨rfl,xz⟩
 clear k0 k1 k2 k3 k4 k5 k6 k7 k8
 replace hJ := hJ.ext xz
 clear xz
 obtain ⟨k0,k1,k2,k3,k4,k5,k6,k7,k8⟩ := hJ.2.cells
 cases b1
 ·have HV : false = R := by
   rw [← hR.out]
   simp [ownS,eg1.out,eg2.out]
  replace HV := Lib.hid HV
  clear hR
  go_wp2_with fail
  all_goals
   go_ret
   exact ⟨retB HV.out,hJ.1⟩
 ·go_wp2_with fail
  have hJe := hJ.1
  go_at_call 99
  (with_reducible refine (R2 _ hJe).mono ?_)
  rintro e wz ⟨rfl,xz⟩
  clear k0 k1 k2 k3 k4 k5 k6 k7 k8
  clear hJe
  replace hJ := hJ.ext xz
  clear xz
  obtain ⟨k0,k1,k2,k3,k4,k5,k6,k7,k8⟩ := hJ.2.cells
  cases b2
  ·have HV : false = R := by
    rw [← hR.out]
    simp [ownS,eg1.out,eg2.out]
   replace HV := Lib.hid HV
   clear hR
   go_wp2_with fail
   all_goals
    go_ret
    exact ⟨retB HV.out,hJ.1⟩
  ·cases f
   ·go_wp2_with fail
    go_at_call 93
    (with_reducible refine (R3 _).mono ?_)
    rintro e wz ⟨rfl,xz⟩
    clear k0 k1 k2 k3 k4 k5 k6 k7 k8
    replace hJ := hJ.ext xz
    clear xz
    obtain ⟨k0,k1,k2,k3,k4,k5,k6,k7,k8⟩ := hJ.2.cells
    cases gv
    ·have HV : false = R := by
      rw [← hR.out]
      simp [ownS,eg1.out,eg2.out]
     replace HV := Lib.hid HV
     clear hR
     go_wp2_with fail
     all_goals
      go_ret
      exact ⟨retB HV.out,hJ.1⟩
    ·by_cases hM : M = 0
     ·subst hM
      by_cases hS : S = 0
      ·subst hS
       by_cases hm : 0 ≤ m
       ·have hm2 : ¬ m < 0 := by omega
        by_cases hT0 : T = 0
        ·subst hT0
         cases tb
         ·exact absurd (hT.out rfl) (by decide)
         cases t
         ·go_wp2_with fail
          go_at_call 100
          (with_reducible refine (R6 _).mono ?_)
          rintro e wz ⟨rfl,xz⟩
          clear k0 k1 k2 k3 k4 k5 k6 k7 k8
          replace hJ := hJ.ext xz
          clear xz
          obtain ⟨k0,k1,k2,k3,k4,k5,k6,k7,k8⟩ := hJ.2.cells
          go_wp2_with fail
          have hJe := hJ.1
          go_at_call 101
          (with_reducible refine (R7 _ hJe).mono ?_)
          rintro e wz ⟨rfl,xz⟩
          clear k0 k1 k2 k3 k4 k5 k6 k7 k8
          clear hJe
          replace hJ := hJ.ext xz
          clear xz
          obtain ⟨k0,k1,k2,k3,k4,k5,k6,k7,k8⟩ := hJ.2.cells
          go_wp2_with fail
          have hJe := hJ.1
          go_at_call 101
          (with_reducible refine (R8 _ hJe).mono ?_)
          rintro e wz ⟨rfl,xz⟩
          clear k0 k1 k2 k3 k4 k5 k6 k7 k8
          clear hJe
          replace hJ := hJ.ext xz
          clear xz
          obtain ⟨k0,k1,k2,k3,k4,k5,k6,k7,k8⟩ := hJ.2.cells
          have HV : true = R := by
           rw [← hR.out]
           simp [ownS,eg1.out,eg2.out,hm]
          replace HV := Lib.hid HV
          clear hR eg1 eg2
          cases g1b <;> cases g2b
          all_goals
           go_wp2_with fail
           go_ret
           exact ⟨retB HV.out,hJ.1⟩
         ·go_wp2_with fail
          go_at_call 100
          (with_reducible refine (R6 _).mono ?_)
          rintro e wz ⟨rfl,xz⟩
          clear k0 k1 k2 k3 k4 k5 k6 k7 k8
          replace hJ := hJ.ext xz
          clear xz
          obtain ⟨k0,k1,k2,k3,k4,k5,k6,k7,k8⟩ := hJ.2.cells
          go_wp2_with fail
          have hJe := hJ.1
          go_at_call 101
          (with_reducible refine (R7 _ hJe).mono ?_)
          rintro e wz ⟨rfl,xz⟩
          clear k0 k1 k2 k3 k4 k5 k6 k7 k8
          clear hJe
          replace hJ := hJ.ext xz
          clear xz
          obtain ⟨k0,k1,k2,k3,k4,k5,k6,k7,k8⟩ := hJ.2.cells
          go_wp2_with fail
          have hJe := hJ.1
          go_at_call 101
          (with_reducible refine (R8 _ hJe).mono ?_)
          rintro e wz ⟨rfl,xz⟩
          clear k0 k1 k2 k3 k4 k5 k6 k7 k8
          clear hJe
          replace hJ := hJ.ext xz
          clear xz
          obtain ⟨k0,k1,k2,k3,k4,k5,k6,k7,k8⟩ := hJ.2.cells
          have HV : true = R := by
           rw [← hR.out]
           simp [ownS,eg1.out,eg2.out,hm]
          replace HV := Lib.hid HV
          clear hR eg1 eg2
          cases g1b <;> cases g2b
          all_goals
           go_wp2_with fail
           go_ret
           exact ⟨retB HV.out,hJ.1⟩
        ·cases t
         ·have HV : false = R := by
           rw [← hR.out]
           simp [ownS,eg1.out,eg2.out,hm,hT0]
          replace HV := Lib.hid HV
          clear hR
          go_wp2_with fail
          all_goals
           go_ret
           exact ⟨retB HV.out,hJ.1⟩
         ·go_wp2_with fail
          go_at_call 100
          (with_reducible refine (R6 _).mono ?_)
          rintro e wz ⟨rfl,xz⟩
          clear k0 k1 k2 k3 k4 k5 k6 k7 k8
          replace hJ := hJ.ext xz
          clear xz
          obtain ⟨k0,k1,k2,k3,k4,k5,k6,k7,k8⟩ := hJ.2.cells
          cases tb
          ·have HV : false = R := by
            rw [← hR.out]
            simp [ownS,eg1.out,eg2.out,hm,hT0]
           replace HV := Lib.hid HV
           clear hR
           go_wp2_with fail
           all_goals
            go_ret
            exact ⟨retB HV.out,hJ.1⟩
          ·go_wp2_with fail
           have hJe := hJ.1
           go_at_call 101
           (with_reducible refine (R7 _ hJe).mono ?_)
           rintro e wz ⟨rfl,xz⟩
           clear k0 k1 k2 k3 k4 k5 k6 k7 k8
           clear hJe
           replace hJ := hJ.ext xz
           clear xz
           obtain ⟨k0,k1,k2,k3,k4,k5,k6,k7,k8⟩ := hJ.2.cells
           go_wp2_with fail
           have hJe := hJ.1
           go_at_call 101
           (with_reducible refine (R8 _ hJe).mono ?_)
           rintro e wz ⟨rfl,xz⟩
           clear k0 k1 k2 k3 k4 k5 k6 k7 k8
           clear hJe
           replace hJ := hJ.ext xz
           clear xz
           obtain ⟨k0,k1,k2,k3,k4,k5,k6,k7,k8⟩ := hJ.2.cells
           have HV : true = R := by
            rw [← hR.out]
            simp [ownS,eg1.out,eg2.out,hm,hT0]
           replace HV := Lib.hid HV
           clear hR eg1 eg2
           cases g1b <;> cases g2b
           all_goals
            go_wp2_with fail
            go_ret
            exact ⟨retB HV.out,hJ.1⟩
       ·have hm2 : m < 0 := by omega
        have HV : false = R := by
         rw [← hR.out]
         simp [ownS,eg1.out,eg2.out,hm]
        replace HV := Lib.hid HV
        clear hR
        go_wp2_with fail
        all_goals
         go_ret
         exact ⟨retB HV.out,hJ.1⟩
      ·have HV : false = R := by
        rw [← hR.out]
        simp [ownS,eg1.out,eg2.out,hS]
       replace HV := Lib.hid HV
       clear hR
       go_wp2_with fail
       all_goals
        go_ret
        exact ⟨retB HV.out,hJ.1⟩
     ·have HV : false = R := by
       rw [← hR.out]
       simp [ownS,eg1.out,eg2.out,hM]
      replace HV := Lib.hid HV
      clear hR
      go_wp2_with fail
      all_goals
       go_ret
       exact ⟨retB HV.out,hJ.1⟩
   ·have HV : false = R := by
     rw [← hR.out]
     simp [ownS,eg1.out,eg2.out]
    replace HV := Lib.hid HV
    clear hR
    go_wp2_with fail
    all_goals
     go_ret
     exact ⟨retB HV.out,hJ.1⟩
set_option linter.unusedSimpArgs false in
theorem rPoint_o (k : Int) (a : Option Addr) (c : Nat) (l : List (ByteArray × ByteArray)) (r : Int) (f : Bool) (M S m s : Int) (t : Bool) (T : Int) (w : World)
  (hl : (l.length : Int) ≤ 9223372036854775807) (hA : LabA a l w) (hz : ∀ x ∈ l,x.1.size ≤ 9223372036854775807 ∧ x.2.size ≤ 9223372036854775807) (i1 : I64 M) (j1 : I64 S) (i2 : I64 m) (j2 : I64 s) (h1 : r ≠ 1) (h2 : r ≠ 2) (h3 : r ≠ 3) :
  Calls Tryz.prog 68 #[.int .i64 k,ptV (.slice a l.length c) r f M S m s t T] w fun e w' => e = .returned (.bool (goodPt k l r f M S m s t T)) ∧ Ext w w' := by
 have R1 := fun W => rHasRole_any k r W
 have R2 := fun W (x : Ext w W) => rLabels_any a c l W hl (hA.ext x) hz
 have R3 := fun W => RGood_any m s W i2 j2
 have R4 := fun W => RGood_any M S W i1 j1
 have R5 := fun W => RCompare_any M S 1 0 W i1 j1 (by unfold I64; omega) (by unfold I64; omega)
 have R6 := fun W => rIsTime_any T W
 have R7 := fun W (x : Ext w W) => rGet_any a c l (⟨#[108,101]⟩ : ByteArray) W hl (hA.ext x)
 have R8 := fun W (x : Ext w W) => rGet_any a c l (⟨#[113,117,97,110,116,105,108,101]⟩ : ByteArray) W hl (hA.ext x)
 obtain ⟨r1⟩ := cM_in M S i1
 obtain ⟨r2⟩ := cM_in 1 0 (by unfold I64; omega)
 rename_i e1 e2
 rw [← rcV_is _ _ _ _ e1 e2] at R5
 clear r1 r2 e1 e2
 obtain ⟨R,hR⟩ : ∃ R,goodPt k l r f M S m s t T = R := ⟨_,rfl⟩
 rw [hR]
 unfold goodPt boundB valB timeB freeB at hR
 have hT : T = 0 → (decide (-1125899906842624 ≤ T) && decide (T ≤ 1125899906842624)) = true := fun h => by subst h; decide
 generalize decide (r ∈ rolesOf k) = b1 at *
 generalize goodLs l = b2 at *
 generalize goodB m s = gv at *
 generalize goodB M S = gb at *
 generalize cmpD (cM M S) (cS M S) (cM 1 0) (cS 1 0) = cv at *
 generalize (decide (-1125899906842624 ≤ T) && decide (T ≤ 1125899906842624)) = tb at *
 obtain ⟨g1,eg1⟩ : ∃ g,getL (⟨#[108,101]⟩ : ByteArray) l = g := ⟨_,rfl⟩
 obtain ⟨g2,eg2⟩ : ∃ g,getL (⟨#[113,117,97,110,116,105,108,101]⟩ : ByteArray) l = g := ⟨_,rfl⟩
 rw [eg1] at R7
 rw [eg2] at R8
 obtain ⟨g1a,g1b⟩ := g1
 obtain ⟨g2a,g2b⟩ := g2
 dsimp only at R7 R8
 replace eg1 := Lib.hid eg1
 replace eg2 := Lib.hid eg2
 replace hT := Lib.hid hT
 replace hR := Lib.hid hR
 obtain ⟨v,hv⟩ : ∃ v,Value.slice a l.length c = v := ⟨_,rfl⟩
 rw [hv] at R2 R7 R8
 rw [hv]
 unfold ptV
 unfold decV at *
 have hJ : Pt1 w w.heap.size v r f M S m s t T (w.alloc (.cells #[v,.int .i64 r,.bool f,.int .i64 M,.int .i64 S,.int .i64 m,.int .i64 s,.bool t,.int .i64 T] 40)) := ⟨(Ext.refl _).alloc _,heap_last _ _⟩
 clear hv hA hl hz i1 j1 i2 j2
 have b1e : (r == 1) = false := by simpa using h1
 have b2e : (r == 2) = false := by simpa using h2
 have b3e : (r == 3) = false := by simpa using h3
 go_enter Tryz.func68,Tryz.ntmps68
 obtain ⟨k0,k1,k2,k3,k4,k5,k6,k7,k8⟩ := hJ.2.cells
 go_wp2_with fail
 go_at_call 98
 (with_reducible refine (R1 _).mono ?_)
 rintro e wz ⟨rfl,xz⟩
 clear k0 k1 k2 k3 k4 k5 k6 k7 k8
 replace hJ := hJ.ext xz
 clear xz
 obtain ⟨k0,k1,k2,k3,k4,k5,k6,k7,k8⟩ := hJ.2.cells
 cases b1
 ·have HV : false = R := by
   rw [← hR.out]
   simp [ownS,eg1.out,eg2.out,h1,h2,h3]
  replace HV := Lib.hid HV
  clear hR
  go_wp2_with fail
  all_goals
   go_ret
   exact ⟨retB HV.out,hJ.1⟩
 ·go_wp2_with fail
  have hJe := hJ.1
  go_at_call 99
  (with_reducible refine (R2 _ hJe).mono ?_)
  rintro e wz ⟨rfl,xz⟩
  clear k0 k1 k2 k3 k4 k5 k6 k7 k8
  clear hJe
  replace hJ := hJ.ext xz
  clear xz
  obtain ⟨k0,k1,k2,k3,k4,k5,k6,k7,k8⟩ := hJ.2.cells
  cases b2
  ·have HV : false = R := by
    rw [← hR.out]
    simp [ownS,eg1.out,eg2.out,h1,h2,h3]
   replace HV := Lib.hid HV
   clear hR
   go_wp2_with fail
   all_goals
    go_ret
    exact ⟨retB HV.out,hJ.1⟩
  ·cases f
   ·go_wp2_with fail
    go_at_call 93
    (with_reducible refine (R3 _).mono ?_)
    rintro e wz ⟨rfl,xz⟩
    clear k0 k1 k2 k3 k4 k5 k6 k7 k8
    replace hJ := hJ.ext xz
    clear xz
    obtain ⟨k0,k1,k2,k3,k4,k5,k6,k7,k8⟩ := hJ.2.cells
    cases gv
    ·have HV : false = R := by
      rw [← hR.out]
      simp [ownS,eg1.out,eg2.out,h1,h2,h3]
     replace HV := Lib.hid HV
     clear hR
     go_wp2_with fail
     all_goals
      go_ret
      exact ⟨retB HV.out,hJ.1⟩
    ·by_cases hM : M = 0
     ·subst hM
      by_cases hS : S = 0
      ·subst hS
       by_cases hm : 0 ≤ m
       ·have hm2 : ¬ m < 0 := by omega
        by_cases hT0 : T = 0
        ·subst hT0
         cases tb
         ·exact absurd (hT.out rfl) (by decide)
         cases t
         ·go_wp2_with fail
          go_at_call 100
          (with_reducible refine (R6 _).mono ?_)
          rintro e wz ⟨rfl,xz⟩
          clear k0 k1 k2 k3 k4 k5 k6 k7 k8
          replace hJ := hJ.ext xz
          clear xz
          obtain ⟨k0,k1,k2,k3,k4,k5,k6,k7,k8⟩ := hJ.2.cells
          go_wp2_with fail
          have hJe := hJ.1
          go_at_call 101
          (with_reducible refine (R7 _ hJe).mono ?_)
          rintro e wz ⟨rfl,xz⟩
          clear k0 k1 k2 k3 k4 k5 k6 k7 k8
          clear hJe
          replace hJ := hJ.ext xz
          clear xz
          obtain ⟨k0,k1,k2,k3,k4,k5,k6,k7,k8⟩ := hJ.2.cells
          go_wp2_with fail
          have hJe := hJ.1
          go_at_call 101
          (with_reducible refine (R8 _ hJe).mono ?_)
          rintro e wz ⟨rfl,xz⟩
          clear k0 k1 k2 k3 k4 k5 k6 k7 k8
          clear hJe
          replace hJ := hJ.ext xz
          clear xz
          obtain ⟨k0,k1,k2,k3,k4,k5,k6,k7,k8⟩ := hJ.2.cells
          have HV : true = R := by
           rw [← hR.out]
           simp [ownS,eg1.out,eg2.out,h1,h2,h3,hm]
          replace HV := Lib.hid HV
          clear hR eg1 eg2
          cases g1b <;> cases g2b
          all_goals
           go_wp2_with fail
           go_ret
           exact ⟨retB HV.out,hJ.1⟩
         ·go_wp2_with fail
          go_at_call 100
          (with_reducible refine (R6 _).mono ?_)
          rintro e wz ⟨rfl,xz⟩
          clear k0 k1 k2 k3 k4 k5 k6 k7 k8
          replace hJ := hJ.ext xz
          clear xz
          obtain ⟨k0,k1,k2,k3,k4,k5,k6,k7,k8⟩ := hJ.2.cells
          go_wp2_with fail
          have hJe := hJ.1
          go_at_call 101
          (with_reducible refine (R7 _ hJe).mono ?_)
          rintro e wz ⟨rfl,xz⟩
          clear k0 k1 k2 k3 k4 k5 k6 k7 k8
          clear hJe
          replace hJ := hJ.ext xz
          clear xz
          obtain ⟨k0,k1,k2,k3,k4,k5,k6,k7,k8⟩ := hJ.2.cells
          go_wp2_with fail
          have hJe := hJ.1
          go_at_call 101
          (with_reducible refine (R8 _ hJe).mono ?_)
          rintro e wz ⟨rfl,xz⟩
          clear k0 k1 k2 k3 k4 k5 k6 k7 k8
          clear hJe
          replace hJ := hJ.ext xz
          clear xz
          obtain ⟨k0,k1,k2,k3,k4,k5,k6,k7,k8⟩ := hJ.2.cells
          have HV : true = R := by
           rw [← hR.out]
           simp [ownS,eg1.out,eg2.out,h1,h2,h3,hm]
          replace HV := Lib.hid HV
          clear hR eg1 eg2
          cases g1b <;> cases g2b
          all_goals
           go_wp2_with fail
           go_ret
           exact ⟨retB HV.out,hJ.1⟩
        ·cases t
         ·have HV : false = R := by
           rw [← hR.out]
           simp [ownS,eg1.out,eg2.out,h1,h2,h3,hm,hT0]
          replace HV := Lib.hid HV
          clear hR
          go_wp2_with fail
          all_goals
           go_ret
           exact ⟨retB HV.out,hJ.1⟩
         ·go_wp2_with fail
          go_at_call 100
          (with_reducible refine (R6 _).mono ?_)
          rintro e wz ⟨rfl,xz⟩
          clear k0 k1 k2 k3 k4 k5 k6 k7 k8
          replace hJ := hJ.ext xz
          clear xz
          obtain ⟨k0,k1,k2,k3,k4,k5,k6,k7,k8⟩ := hJ.2.cells
          cases tb
          ·have HV : false = R := by
            rw [← hR.out]
            simp [ownS,eg1.out,eg2.out,h1,h2,h3,hm,hT0]
           replace HV := Lib.hid HV
           clear hR
           go_wp2_with fail
           all_goals
            go_ret
            exact ⟨retB HV.out,hJ.1⟩
          ·go_wp2_with fail
           have hJe := hJ.1
           go_at_call 101
           (with_reducible refine (R7 _ hJe).mono ?_)
           rintro e wz ⟨rfl,xz⟩
           clear k0 k1 k2 k3 k4 k5 k6 k7 k8
           clear hJe
           replace hJ := hJ.ext xz
           clear xz
           obtain ⟨k0,k1,k2,k3,k4,k5,k6,k7,k8⟩ := hJ.2.cells
           go_wp2_with fail
           have hJe := hJ.1
           go_at_call 101
           (with_reducible refine (R8 _ hJe).mono ?_)
           rintro e wz ⟨rfl,xz⟩
           clear k0 k1 k2 k3 k4 k5 k6 k7 k8
           clear hJe
           replace hJ := hJ.ext xz
           clear xz
           obtain ⟨k0,k1,k2,k3,k4,k5,k6,k7,k8⟩ := hJ.2.cells
           have HV : true = R := by
            rw [← hR.out]
            simp [ownS,eg1.out,eg2.out,h1,h2,h3,hm,hT0]
           replace HV := Lib.hid HV
           clear hR eg1 eg2
           cases g1b <;> cases g2b
           all_goals
            go_wp2_with fail
            go_ret
            exact ⟨retB HV.out,hJ.1⟩
       ·have hm2 : m < 0 := by omega
        by_cases hk2 : k = 2
        ·subst hk2
         have HV : false = R := by
          rw [← hR.out]
          simp [ownS,eg1.out,eg2.out,h1,h2,h3,hm]
         replace HV := Lib.hid HV
         clear hR
         go_wp2_with fail
         all_goals
          go_ret
          exact ⟨retB HV.out,hJ.1⟩
        ·by_cases hT0 : T = 0
         ·subst hT0
          cases tb
          ·exact absurd (hT.out rfl) (by decide)
          cases t
          ·go_wp2_with fail
           go_at_call 100
           (with_reducible refine (R6 _).mono ?_)
           rintro e wz ⟨rfl,xz⟩
           clear k0 k1 k2 k3 k4 k5 k6 k7 k8
           replace hJ := hJ.ext xz
           clear xz
           obtain ⟨k0,k1,k2,k3,k4,k5,k6,k7,k8⟩ := hJ.2.cells
           go_wp2_with fail
           have hJe := hJ.1
           go_at_call 101
           (with_reducible refine (R7 _ hJe).mono ?_)
           rintro e wz ⟨rfl,xz⟩
           clear k0 k1 k2 k3 k4 k5 k6 k7 k8
           clear hJe
           replace hJ := hJ.ext xz
           clear xz
           obtain ⟨k0,k1,k2,k3,k4,k5,k6,k7,k8⟩ := hJ.2.cells
           go_wp2_with fail
           have hJe := hJ.1
           go_at_call 101
           (with_reducible refine (R8 _ hJe).mono ?_)
           rintro e wz ⟨rfl,xz⟩
           clear k0 k1 k2 k3 k4 k5 k6 k7 k8
           clear hJe
           replace hJ := hJ.ext xz
           clear xz
           obtain ⟨k0,k1,k2,k3,k4,k5,k6,k7,k8⟩ := hJ.2.cells
           have HV : true = R := by
            rw [← hR.out]
            simp [ownS,eg1.out,eg2.out,h1,h2,h3,hm,hk2]
           replace HV := Lib.hid HV
           clear hR eg1 eg2
           cases g1b <;> cases g2b
           all_goals
            go_wp2_with fail
            go_ret
            exact ⟨retB HV.out,hJ.1⟩
          ·go_wp2_with fail
           go_at_call 100
           (with_reducible refine (R6 _).mono ?_)
           rintro e wz ⟨rfl,xz⟩
           clear k0 k1 k2 k3 k4 k5 k6 k7 k8
           replace hJ := hJ.ext xz
           clear xz
           obtain ⟨k0,k1,k2,k3,k4,k5,k6,k7,k8⟩ := hJ.2.cells
           go_wp2_with fail
           have hJe := hJ.1
           go_at_call 101
           (with_reducible refine (R7 _ hJe).mono ?_)
           rintro e wz ⟨rfl,xz⟩
           clear k0 k1 k2 k3 k4 k5 k6 k7 k8
           clear hJe
           replace hJ := hJ.ext xz
           clear xz
           obtain ⟨k0,k1,k2,k3,k4,k5,k6,k7,k8⟩ := hJ.2.cells
           go_wp2_with fail
           have hJe := hJ.1
           go_at_call 101
           (with_reducible refine (R8 _ hJe).mono ?_)
           rintro e wz ⟨rfl,xz⟩
           clear k0 k1 k2 k3 k4 k5 k6 k7 k8
           clear hJe
           replace hJ := hJ.ext xz
           clear xz
           obtain ⟨k0,k1,k2,k3,k4,k5,k6,k7,k8⟩ := hJ.2.cells
           have HV : true = R := by
            rw [← hR.out]
            simp [ownS,eg1.out,eg2.out,h1,h2,h3,hm,hk2]
           replace HV := Lib.hid HV
           clear hR eg1 eg2
           cases g1b <;> cases g2b
           all_goals
            go_wp2_with fail
            go_ret
            exact ⟨retB HV.out,hJ.1⟩
         ·cases t
          ·have HV : false = R := by
            rw [← hR.out]
            simp [ownS,eg1.out,eg2.out,h1,h2,h3,hm,hk2,hT0]
           replace HV := Lib.hid HV
           clear hR
           go_wp2_with fail
           all_goals
            go_ret
            exact ⟨retB HV.out,hJ.1⟩
          ·go_wp2_with fail
           go_at_call 100
           (with_reducible refine (R6 _).mono ?_)
           rintro e wz ⟨rfl,xz⟩
           clear k0 k1 k2 k3 k4 k5 k6 k7 k8
           replace hJ := hJ.ext xz
           clear xz
           obtain ⟨k0,k1,k2,k3,k4,k5,k6,k7,k8⟩ := hJ.2.cells
           cases tb
           ·have HV : false = R := by
             rw [← hR.out]
             simp [ownS,eg1.out,eg2.out,h1,h2,h3,hm,hk2,hT0]
            replace HV := Lib.hid HV
            clear hR
            go_wp2_with fail
            all_goals
             go_ret
             exact ⟨retB HV.out,hJ.1⟩
           ·go_wp2_with fail
            have hJe := hJ.1
            go_at_call 101
            (with_reducible refine (R7 _ hJe).mono ?_)
            rintro e wz ⟨rfl,xz⟩
            clear k0 k1 k2 k3 k4 k5 k6 k7 k8
            clear hJe
            replace hJ := hJ.ext xz
            clear xz
            obtain ⟨k0,k1,k2,k3,k4,k5,k6,k7,k8⟩ := hJ.2.cells
            go_wp2_with fail
            have hJe := hJ.1
            go_at_call 101
            (with_reducible refine (R8 _ hJe).mono ?_)
            rintro e wz ⟨rfl,xz⟩
            clear k0 k1 k2 k3 k4 k5 k6 k7 k8
            clear hJe
            replace hJ := hJ.ext xz
            clear xz
            obtain ⟨k0,k1,k2,k3,k4,k5,k6,k7,k8⟩ := hJ.2.cells
            have HV : true = R := by
             rw [← hR.out]
             simp [ownS,eg1.out,eg2.out,h1,h2,h3,hm,hk2,hT0]
            replace HV := Lib.hid HV
            clear hR eg1 eg2
            cases g1b <;> cases g2b
            all_goals
             go_wp2_with fail
             go_ret
             exact ⟨retB HV.out,hJ.1⟩
      ·have HV : false = R := by
        rw [← hR.out]
        simp [ownS,eg1.out,eg2.out,h1,h2,h3,hS]
       replace HV := Lib.hid HV
       clear hR
       go_wp2_with fail
       all_goals
        go_ret
        exact ⟨retB HV.out,hJ.1⟩
     ·have HV : false = R := by
       rw [← hR.out]
       simp [ownS,eg1.out,eg2.out,h1,h2,h3,hM]
      replace HV := Lib.hid HV
      clear hR
      go_wp2_with fail
      all_goals
       go_ret
       exact ⟨retB HV.out,hJ.1⟩
   ·have HV : false = R := by
     rw [← hR.out]
     simp [ownS,eg1.out,eg2.out,h1,h2,h3]
    replace HV := Lib.hid HV
    clear hR
    go_wp2_with fail
    all_goals
     go_ret
     exact ⟨retB HV.out,hJ.1⟩
theorem rPoint_any (k : Int) (a : Option Addr) (c : Nat) (l : List (ByteArray × ByteArray)) (r : Int) (f : Bool) (M S m s : Int) (t : Bool) (T : Int) (w : World)
  (hl : (l.length : Int) ≤ 9223372036854775807) (hA : LabA a l w) (hz : ∀ x ∈ l,x.1.size ≤ 9223372036854775807 ∧ x.2.size ≤ 9223372036854775807) (i1 : I64 M) (j1 : I64 S) (i2 : I64 m) (j2 : I64 s) :
  Calls Tryz.prog 68 #[.int .i64 k,ptV (.slice a l.length c) r f M S m s t T] w fun e w' => e = .returned (.bool (goodPt k l r f M S m s t T)) ∧ Ext w w' := by
 by_cases h1 : r = 1
 ·subst h1; exact rPoint_1 k a c l f M S m s t T w hl hA hz i1 j1 i2 j2
 by_cases h2 : r = 2
 ·subst h2; exact rPoint_2 k a c l f M S m s t T w hl hA hz i1 j1 i2 j2
 by_cases h3 : r = 3
 ·subst h3; exact rPoint_3 k a c l f M S m s t T w hl hA hz i1 j1 i2 j2
 exact rPoint_o k a c l r f M S m s t T w hl hA hz i1 j1 i2 j2 h1 h2 h3
end Go.Proofs.YtjjnmefihdjglaaGreat
