import Derived.Test.YtjjnmefihdjglaaGreatBatE
import Derived.Test.YtjjnmefihdjglaaGreatPtH
import Derived.Test.YtjjnmefihdjglaaGreatRpB
namespace Go.Proofs.YtjjnmefihdjglaaGreat
open Go.RowKit
theorem rcmpD_any (p q : PtD) (w : World) (h1 : p.Ok w) (h2 : q.Ok w) : Calls Tryz.prog 34 #[p.v, q.v] w fun e w' => e = .returned (.int .i64 (cmpK p.k q.k)) ∧ Ext w w' :=
 rPtCmp_any p.a q.a p.c q.c p.l q.l p.r p.f p.M p.S p.m p.s p.t p.T q.r q.f q.M q.S q.m q.s q.t q.T w h1.1 h2.1 h1.2.1 h2.2.1 h1.2.2.2.1.1 h1.2.2.2.1.2 h2.2.2.2.1.1 h2.2.2.2.1.2
theorem rPointD_any (k : Int) (p : PtD) (w : World) (h : p.Ok w) : Calls Tryz.prog 68 #[.int .i64 k, p.v] w fun e w' => e = .returned (.bool (goodY k p.y)) ∧ Ext w w' :=
 rPoint_any k p.a p.c p.l p.r p.f p.M p.S p.m p.s p.t p.T w h.1 h.2.1 h.2.2.1 h.2.2.2.1.1 h.2.2.2.1.2 h.2.2.2.2.1 h.2.2.2.2.2
set_option maxHeartbeats 4000000 in
set_option maxRecDepth 100000 in
theorem rTenant_any (s : ByteArray) (w : World) (hs : s.size ≤ 9223372036854775807) :
  Calls Tryz.prog 35 #[.string s] w fun e w' => e = .returned (.bool (tenB s)) ∧ Ext w w' := by
 obtain ⟨R, hR⟩ : ∃ R, tenB s = R := ⟨_, rfl⟩
 rw [hR]
 unfold tenB at hR
 replace hR := Lib.hid hR
 go_enter Tryz.func35, Tryz.ntmps35
 go_wp2_with fail
 go_loopw [3] (fun i wr => ∃ k : Nat, i = .int .i64 k ∧ k ≤ s.size ∧ Hid (((bs s).drop k).all tenC = (bs s).all tenC) ∧ wr = w) (fun i _ => s.size - (intOf i).toNat)
 case atStart => exact ⟨0, rfl, Nat.zero_le _, Lib.hid rfl, rfl⟩
 case round =>
  obtain ⟨k, rfl, hk, hz, rfl⟩ := hrel
  by_cases hlt : k < s.size
  ·have hd := hz.out
   rw [drop_bs s k hlt, List.all_cons] at hd
   clear hz
   obtain ⟨c, hc⟩ : ∃ c, s[k].toNat = c := ⟨_, rfl⟩
   rw [hc] at hd
   have i0 : (k : Int) < (s.size : Int) := by omega
   by_cases h1 : 97 ≤ c
   ·by_cases h2 : c ≤ 122
    ·have j1 : (97 : Int) ≤ (s[k].toNat : Int) := by rw [hc]; omega
     have j2 : (s[k].toNat : Int) ≤ 122 := by rw [hc]; omega
     rw [show tenC c = true from by unfold tenC; simp; omega, Bool.true_and] at hd
     replace hd := Lib.hid hd
     clear hc h1 h2
     go_wp2_with fail
     go_roundw
     case rel => exact ⟨k + 1, rfl, hlt, hd, by first | trivial | rfl⟩
     case measure => simp only [intOf]; omega
    ·have j1 : (97 : Int) ≤ (s[k].toNat : Int) := by rw [hc]; omega
     have j2 : ¬ (s[k].toNat : Int) ≤ 122 := by rw [hc]; omega
     have j3 : (48 : Int) ≤ (s[k].toNat : Int) := by rw [hc]; omega
     have j4 : ¬ (s[k].toNat : Int) ≤ 57 := by rw [hc]; omega
     have e2 : ((s[k].toNat : Int) == 45) = false := by rw [hc]; simp; omega
     rw [show tenC c = false from by unfold tenC; simp; omega, Bool.false_and] at hd
     have HV : Hid (R = false) := Lib.hid (by rw [← hR.out, ← hd, Bool.false_and])
     clear hc hd hR h1 h2
     go_wp2_with fail
     go_ret
     exact ⟨retB HV.out.symm, Ext.refl _⟩
   ·by_cases h2 : 48 ≤ c
    ·by_cases h3 : c ≤ 57
     ·have j1 : ¬ (97 : Int) ≤ (s[k].toNat : Int) := by rw [hc]; omega
      have j2 : (48 : Int) ≤ (s[k].toNat : Int) := by rw [hc]; omega
      have j3 : (s[k].toNat : Int) ≤ 57 := by rw [hc]; omega
      rw [show tenC c = true from by unfold tenC; simp; omega, Bool.true_and] at hd
      replace hd := Lib.hid hd
      clear hc h1 h2
      go_wp2_with fail
      go_roundw
      case rel => exact ⟨k + 1, rfl, hlt, hd, by first | trivial | rfl⟩
      case measure => simp only [intOf]; omega
     ·have j1 : ¬ (97 : Int) ≤ (s[k].toNat : Int) := by rw [hc]; omega
      have j2 : (48 : Int) ≤ (s[k].toNat : Int) := by rw [hc]; omega
      have j3 : ¬ (s[k].toNat : Int) ≤ 57 := by rw [hc]; omega
      have e2 : ((s[k].toNat : Int) == 45) = false := by rw [hc]; simp; omega
      rw [show tenC c = false from by unfold tenC; simp; omega, Bool.false_and] at hd
      have HV : Hid (R = false) := Lib.hid (by rw [← hR.out, ← hd, Bool.false_and])
      clear hc hd hR h1 h2
      go_wp2_with fail
      go_ret
      exact ⟨retB HV.out.symm, Ext.refl _⟩
    ·by_cases h3 : c = 45
     ·have j1 : ¬ (97 : Int) ≤ (s[k].toNat : Int) := by rw [hc]; omega
      have j2 : ¬ (48 : Int) ≤ (s[k].toNat : Int) := by rw [hc]; omega
      have e2 : ((s[k].toNat : Int) == 45) = true := by rw [hc, h3]; rfl
      rw [show tenC c = true from by unfold tenC; simp; omega, Bool.true_and] at hd
      replace hd := Lib.hid hd
      clear hc h1 h2
      go_wp2_with fail
      go_roundw
      case rel => exact ⟨k + 1, rfl, hlt, hd, by first | trivial | rfl⟩
      case measure => simp only [intOf]; omega
     ·have j1 : ¬ (97 : Int) ≤ (s[k].toNat : Int) := by rw [hc]; omega
      have j2 : ¬ (48 : Int) ≤ (s[k].toNat : Int) := by rw [hc]; omega
      have e2 : ((s[k].toNat : Int) == 45) = false := by rw [hc]; simp; omega
      rw [show tenC c = false from by unfold tenC; simp; omega, Bool.false_and] at hd
      have HV : Hid (R = false) := Lib.hid (by rw [← hR.out, ← hd, Bool.false_and])
      clear hc hd hR h1 h2
      go_wp2_with fail
      go_ret
      exact ⟨retB HV.out.symm, Ext.refl _⟩
  ·have hd := hz.out
   rw [drop_bs_nil s k (by omega)] at hd
   have hr := hR.out
   rw [← hd, show List.all [] tenC = true from rfl, Bool.true_and] at hr
   clear hR hd hz
   have hk2 : s.size ≤ k := by omega
   have i0 : ¬ (k : Int) < (s.size : Int) := by omega
   by_cases h0 : 0 < s.size
   ·rw [decide_eq_true h0, Bool.true_and] at hr
    have e0 : (1 : Int) ≤ (s.size : Int) := by omega
    have hr2 : Hid (decide ((s.size : Int) ≤ 16) = R) := Lib.hid (by rw [← hr]; exact decide_eq_decide.2 (by omega))
    clear hk hlt hr
    go_wp2_with fail
    go_ret
    exact ⟨retB hr2.out, Ext.refl _⟩
   ·rw [decide_eq_false h0, Bool.false_and] at hr
    have e0 : ¬ (1 : Int) ≤ (s.size : Int) := by omega
    replace hr := Lib.hid hr
    clear hk hlt h0
    go_wp2_with fail
    go_ret
    exact ⟨retB hr.out, Ext.refl _⟩
set_option maxHeartbeats 4000000 in
set_option maxRecDepth 100000 in
theorem rIsKind_any (k : Int) (w : World) : Calls Tryz.prog 66 #[.int .i64 k] w fun e w' => e = .returned (.bool (!(decide (k < 0 ∨ 4 < k)))) ∧ Ext w w' := by
 obtain ⟨R, hR⟩ : ∃ R, (!(decide (k < 0 ∨ 4 < k))) = R := ⟨_, rfl⟩
 rw [hR]
 by_cases h0 : 0 ≤ k
 ·have HV : Hid (decide (k ≤ 4) = R) := Lib.hid (by
   rw [← hR]
   by_cases h4 : k ≤ 4
   ·rw [decide_eq_true h4, decide_eq_false (by omega)]; rfl
   ·rw [decide_eq_false h4, decide_eq_true (by omega)]; rfl)
  clear hR
  go_enter Tryz.func66, Tryz.ntmps66
  go_wp2_with fail
  go_ret
  exact ⟨retB HV.out, Ext.refl _⟩
 ·have HV : Hid (false = R) := Lib.hid (by rw [← hR, decide_eq_true (by omega)]; rfl)
  clear hR
  go_enter Tryz.func66, Tryz.ntmps66
  go_wp2_with fail
  go_ret
  exact ⟨retB HV.out, Ext.refl _⟩
set_option maxHeartbeats 4000000 in
set_option maxRecDepth 100000 in
theorem rPoints_any (a : Option Addr) (c : Nat) (l : List FamD) (w : World) (hl : l.length ≤ 1000000) (hA : FamsA a l w) (hs : ∀ f ∈ l, f.y.Sm) :
  Calls Tryz.prog 15 #[.slice a l.length c] w fun e w' => e = .returned (.int .i64 (ptsN (l.map FamD.y) : Nat)) ∧ Ext w w' := by
 go_enter Tryz.func15, Tryz.ntmps15
 go_wp2_with fail
 go_loopw [3, 4] (fun s i wr => ∃ k : Nat, i = .int .i64 k ∧ k ≤ l.length ∧ s = .int .i64 (ptsN ((l.map FamD.y).take k) : Nat) ∧ Ext w wr) (fun _ i _ => l.length - (intOf i).toNat)
 case atStart => exact ⟨0, rfl, Nat.zero_le _, rfl, Ext.refl _⟩
 case round =>
  obtain ⟨k, rfl, hk, rfl, xr⟩ := hrel
  by_cases hlt : k < l.length
  ·obtain ⟨b, o, rfl, hb, hL⟩ := hA.1 (by omega)
   obtain ⟨_, _, _, _, p4⟩ := hL k hlt
   have hN : Hid (ptsN ((l.map FamD.y).take (k + 1)) = ptsN ((l.map FamD.y).take k) + l[k].ps.length) := Lib.hid (by
    rw [List.take_add_one, List.getElem?_map, List.getElem?_eq_getElem hlt, Option.map_some, Option.toList_some, ptsN_append]
    simp [ptsN, FamD.y_len])
   have hB1 : ptsN ((l.map FamD.y).take k) ≤ 1000 * k := by
    have := ptsN_le ((l.map FamD.y).take k) (fun f hf => by obtain ⟨g, hg, rfl⟩ := List.mem_map.1 (List.mem_of_mem_take hf); exact hs g hg)
    rw [List.length_take, List.length_map] at this
    omega
   have hB2 : l[k].ps.length ≤ 1000 := (hs _ (List.getElem_mem hlt)).pl
   generalize l[k] = p at *
   obtain ⟨n, hn⟩ : ∃ n, ptsN ((l.map FamD.y).take k) = n := ⟨_, rfl⟩
   rw [hn] at hN hB1 ⊢
   replace p4 := (Ext.cell xr hb).trans p4
   have e1 : IntKind.i64.wrap ((n : Int) + (p.ps.length : Int)) = (n : Int) + (p.ps.length : Int) := IntWalk.i64_in _ (by omega)
   have i0 : (k : Int) < (l.length : Int) := by omega
   clear hL hA hs hn
   go_wp2_with fail
   go_roundw
   case rel => exact ⟨k + 1, rfl, hlt, by rw [hN.out]; rfl, xr⟩
   case measure => simp only [intOf]; omega
  ·obtain rfl : k = l.length := by omega
   rw [List.take_of_length_le (by simp)]
   clear hA hs
   go_wp2_with fail
   go_ret
   exact ⟨rfl, xr⟩
def famGo (k : Int) : Option PtK → List PtY → Bool
 | _, [] => true
 | none, y :: l => goodY k y && famGo k (some y.1) l
 | some x, y :: l => goodY k y && (decide (cmpK x y.1 < 0) && famGo k (some y.1) l)
theorem famGo_some (k : Int) : ∀ (l : List PtY) (x : PtK), famGo k (some x) l = (l.all (goodY k) && risesK (x :: l.map (fun y => y.1)))
 | [], x => by simp [famGo, risesK]
 | y :: l, x => by
   rw [famGo, famGo_some k l y.1, List.all_cons, List.map_cons, risesK]
   cases goodY k y <;> cases decide (cmpK x y.1 < 0) <;> cases l.all (goodY k) <;> rfl
theorem famGo_none (k : Int) (l : List PtY) : famGo k none l = (l.all (goodY k) && risesK (l.map (fun y => y.1))) := by
 cases l with
 | nil => rfl
 | cons y l =>
   rw [famGo, famGo_some k l y.1, List.all_cons, List.map_cons]
   cases goodY k y <;> rfl
set_option maxHeartbeats 16000000 in
set_option maxRecDepth 100000 in
theorem rFamily_any (f : FamD) (w : World) (hp : PtsA f.pa f.ps w) (hs : f.y.Sm) :
  Calls Tryz.prog 36 #[f.v] w fun e w' => e = .returned (.bool (goodF f.y)) ∧ Ext w w' := by
 obtain ⟨nm, kd, un, he, a, c, l⟩ := f
 have hl : l.length ≤ 1000 := hs.pl
 have N := fun W => rName_any nm W (by have := hs.n; have : nm.size ≤ 1000 := this; omega)
 have U := fun W => rValue_any un W (by have := hs.u; have : un.size ≤ 1000 := this; omega)
 have H := fun W => rValue_any he W (by have := hs.h; have : he.size ≤ 1000 := this; omega)
 have K := fun W => rIsKind_any kd W
 obtain ⟨R, hR⟩ : ∃ R, goodF (FamD.y ⟨nm, kd, un, he, a, c, l⟩) = R := ⟨_, rfl⟩
 rw [hR]
 replace hR : ((nameB nm && (!(decide (kd < 0 ∨ 4 < kd)) && (valueB un && valueB he))) && famGo kd none (l.map PtD.y)) = R := by rw [famGo_none]; exact hR
 change PtsA a l w at hp
 clear hs
 unfold FamD.v
 dsimp only
 generalize nameB nm = b1 at *
 generalize (!(decide (kd < 0 ∨ 4 < kd))) = b2 at *
 generalize valueB un = b3 at *
 generalize valueB he = b4 at *
 obtain ⟨W, hW⟩ : ∃ W, w.alloc (.cells #[.string nm, .int .i64 kd, .string un, .string he, .slice a l.length c] 35) = W := ⟨_, rfl⟩
 have x1 : Ext w W := by rw [← hW]; exact (Ext.refl w).alloc _
 have g1 : FamIn w.heap.size nm kd un he (.slice a l.length c) W := by rw [← hW]; exact heap_last _ _
 replace hW := Lib.hid hW
 obtain ⟨B, hB⟩ : ∃ B, w.heap.size = B := ⟨_, rfl⟩
 rw [hB] at g1
 obtain ⟨c0, c1, c2, c3, c4⟩ := g1.cells
 go_enter Tryz.func36, Tryz.ntmps36
 cases b1
 ·replace hR : Hid (false = R) := Lib.hid (by rw [← hR]; rfl)
  go_wp2_with fail
  rw [hW.out]
  (with_reducible refine (N _).mono ?_)
  rintro e w1 ⟨rfl, x2⟩
  go_wp2_with fail
  go_ret
  exact ⟨retB hR.out, x1.trans x2⟩
 cases b2
 ·replace hR : Hid (false = R) := Lib.hid (by rw [← hR]; rfl)
  go_wp2_with fail
  rw [hW.out]
  (with_reducible refine (N _).mono ?_)
  rintro e w1 ⟨rfl, x2⟩
  obtain ⟨c0, c1, c2, c3, c4⟩ := (g1.ext x2).cells
  go_wp2_with fail
  (with_reducible refine (K _).mono ?_)
  rintro e w2 ⟨rfl, x3⟩
  go_wp2_with fail
  go_ret
  exact ⟨retB hR.out, (x1.trans x2).trans x3⟩
 cases b3
 ·replace hR : Hid (false = R) := Lib.hid (by rw [← hR]; rfl)
  go_wp2_with fail
  rw [hW.out]
  (with_reducible refine (N _).mono ?_)
  rintro e w1 ⟨rfl, x2⟩
  obtain ⟨c0, c1, c2, c3, c4⟩ := (g1.ext x2).cells
  go_wp2_with fail
  (with_reducible refine (K _).mono ?_)
  rintro e w2 ⟨rfl, x3⟩
  obtain ⟨c0, c1, c2, c3, c4⟩ := (g1.ext (x2.trans x3)).cells
  go_wp2_with fail
  (with_reducible refine (U _).mono ?_)
  rintro e w3 ⟨rfl, x4⟩
  go_wp2_with fail
  go_ret
  exact ⟨retB hR.out, ((x1.trans x2).trans x3).trans x4⟩
 go_wp2_with fail
 rw [hW.out]
 (with_reducible refine (N _).mono ?_)
 rintro e w1 ⟨rfl, x2⟩
 obtain ⟨c0, c1, c2, c3, c4⟩ := (g1.ext x2).cells
 go_wp2_with fail
 (with_reducible refine (K _).mono ?_)
 rintro e w2 ⟨rfl, x3⟩
 obtain ⟨c0, c1, c2, c3, c4⟩ := (g1.ext (x2.trans x3)).cells
 go_wp2_with fail
 (with_reducible refine (U _).mono ?_)
 rintro e w3 ⟨rfl, x4⟩
 obtain ⟨c0, c1, c2, c3, c4⟩ := (g1.ext ((x2.trans x3).trans x4)).cells
 go_wp2_with fail
 (with_reducible refine (H _).mono ?_)
 rintro e w4 ⟨rfl, x5⟩
 replace g1 := g1.ext (((x2.trans x3).trans x4).trans x5)
 have z1 := (((x1.trans x2).trans x3).trans x4).trans x5
 clear x1 x2 x3 x4 x5 hW N K U H c0 c1 c2 c3 c4
 cases b4
 ·replace hR : Hid (false = R) := Lib.hid (by rw [← hR]; rfl)
  go_wp2_with fail
  go_ret
  exact ⟨retB hR.out, z1⟩
 rw [show (true && (true && (true && true)) && famGo kd none (l.map PtD.y)) = famGo kd none (l.map PtD.y) from rfl] at hR
 go_wp2_with fail
 go_loopw [3] (fun i wr => ∃ k : Nat, i = .int .i64 k ∧ k ≤ l.length ∧ Hid (famGo kd (((l.map PtD.y).take k).getLast?.map (fun y => y.1)) ((l.map PtD.y).drop k) = R) ∧ Ext w4 wr) (fun i _ => l.length - (intOf i).toNat)
 case atStart => exact ⟨0, rfl, Nat.zero_le _, Lib.hid hR, Ext.refl _⟩
 case round =>
  obtain ⟨k, rfl, hk, hg, xr⟩ := hrel
  clear hR
  have gr := g1.ext xr
  replace hp := hp.ext (z1.trans xr)
  by_cases hlt : k < l.length
  ·obtain ⟨b, o, rfl, hbr, hL⟩ := hp.1 (by omega)
   have ok1 := hp.2 _ (List.getElem_mem hlt)
   obtain ⟨p0, p1, p2, p3, p4, p5, p6, p7, p8⟩ := hL k hlt
   have hd := hg.out
   have hlt' : k < (l.map PtD.y).length := by simpa using hlt
   have htl : (((l.map PtD.y).take (k + 1)).getLast?.map (fun y => y.1)) = some l[k].k := by
    rw [List.take_add_one, List.getElem?_eq_getElem hlt', Option.toList_some, List.getLast?_append]
    simp [PtD.y]
   rw [List.drop_eq_getElem_cons hlt', show (l.map PtD.y)[k] = l[k].y from by simp] at hd
   have RP := fun W (x : Ext wr W) => rPointD_any kd l[k] W (ok1.ext x)
   have i0 : (k : Int) < (l.length : Int) := by omega
   obtain ⟨gk, hgk⟩ : ∃ gk, goodY kd l[k].y = gk := ⟨_, rfl⟩
   rw [hgk] at RP
   obtain ⟨c0, c1, c2, c3, c4⟩ := gr.cells
   cases gk
   ·have HV : Hid (false = R) := Lib.hid (by
     rw [← hd]
     cases ((l.map PtD.y).take k).getLast?.map (fun y => y.1) <;> (rw [famGo, hgk]; rfl))
    clear hd hg htl
    generalize l[k] = p at *
    unfold PtD.v ptV at RP
    clear hp hL ok1 hgk
    go_wp2_with fail
    refine wp_region_held_drew (S := Ext wr) (by kernel_rfl) ((Ext.refl wr).drew) (fun hHeld => ?_)
    refine wpAnyH_take (i := 0) (oi := ?oim1) (v := ?vm1) ?him1 (by kernel_rfl) (by kernel_rfl) (by kernel_rfl) ?hQm1 (Or.inl ⟨?hwm1, ?hym1⟩) hHeld ?restm1
    case him1 => simp only [List.getElem?_toArray, List.getElem?_cons_zero]; rfl
    case hQm1 => exact fun _ _ _ h => h
    case hwm1 => rfl
    case hym1 => (intro w9 hSw; obtain ⟨c0, c1, c2, c3, c4⟩ := (gr.ext hSw).cells; go_simp; (try with_reducible rfl))
    case restm1 =>
    try simp only [Act.put, List.setIfInBounds_toArray, List.set_cons_zero, List.set_cons_succ]
    refine wpAnyH_take (i := 1) (oi := ?oim2) (v := ?vm2) ?him2 (by kernel_rfl) (by kernel_rfl) (by kernel_rfl) ?hQm2 (Or.inl ⟨?hwm2, ?hym2⟩) hHeld ?restm2
    case him2 => simp only [List.getElem?_toArray, List.getElem?_cons_succ, List.getElem?_cons_zero]; rfl
    case hQm2 => exact fun _ _ _ h => h
    case hwm2 => rfl
    case hym2 => (intro w9 hSw; obtain ⟨c0, c1, c2, c3, c4⟩ := (gr.ext hSw).cells; go_simp; (try with_reducible rfl))
    case restm2 =>
    try simp only [Act.put, List.setIfInBounds_toArray, List.set_cons_zero, List.set_cons_succ]
    refine wpAnyH_take (i := 2) (oi := ?oim3) (v := ?vm3) ?him3 (by kernel_rfl) (by kernel_rfl) (by kernel_rfl) ?hQm3 (Or.inl ⟨?hwm3, ?hym3⟩) hHeld ?restm3
    case him3 => simp only [List.getElem?_toArray, List.getElem?_cons_succ, List.getElem?_cons_zero]; rfl
    case hQm3 => exact fun _ _ _ h => h
    case hwm3 => rfl
    case hym3 => (intro w9 hSw; obtain ⟨c0, c1, c2, c3, c4⟩ := (gr.ext hSw).cells; go_simp; (try with_reducible rfl))
    case restm3 =>
    try simp only [Act.put, List.setIfInBounds_toArray, List.set_cons_zero, List.set_cons_succ]
    refine wpAnyH_take (i := 3) (oi := ?oim4) (v := ?vm4) ?him4 (by kernel_rfl) (by kernel_rfl) (by kernel_rfl) ?hQm4 (Or.inl ⟨?hwm4, ?hym4⟩) hHeld ?restm4
    case him4 => simp only [List.getElem?_toArray, List.getElem?_cons_succ, List.getElem?_cons_zero]; rfl
    case hQm4 => exact fun _ _ _ h => h
    case hwm4 => rfl
    case hym4 => (intro w9 hSw; obtain ⟨c0, c1, c2, c3, c4⟩ := (gr.ext hSw).cells; go_simp; (try with_reducible rfl))
    case restm4 =>
    try simp only [Act.put, List.setIfInBounds_toArray, List.set_cons_zero, List.set_cons_succ]
    refine wpAnyH_take (i := 4) (oi := ?oim5) (v := ?vm5) ?him5 (by kernel_rfl) (by kernel_rfl) (by kernel_rfl) ?hQm5 (Or.inl ⟨?hwm5, ?hym5⟩) hHeld ?restm5
    case him5 => simp only [List.getElem?_toArray, List.getElem?_cons_succ, List.getElem?_cons_zero]; rfl
    case hQm5 => exact fun _ _ _ h => h
    case hwm5 => rfl
    case hym5 => (intro w9 hSw; obtain ⟨c0, c1, c2, c3, c4⟩ := (gr.ext hSw).cells; go_simp; (try with_reducible rfl))
    case restm5 =>
    try simp only [Act.put, List.setIfInBounds_toArray, List.set_cons_zero, List.set_cons_succ]
    refine wpAnyH_take (i := 5) (oi := ?oim6) (v := ?vm6) ?him6 (by kernel_rfl) (by kernel_rfl) (by kernel_rfl) ?hQm6 (Or.inl ⟨?hwm6, ?hym6⟩) hHeld ?restm6
    case him6 => simp only [List.getElem?_toArray, List.getElem?_cons_succ, List.getElem?_cons_zero]; rfl
    case hQm6 => exact fun _ _ _ h => h
    case hwm6 => rfl
    case hym6 => (intro w9 hSw; obtain ⟨c0, c1, c2, c3, c4⟩ := (gr.ext hSw).cells; go_simp; (try with_reducible rfl))
    case restm6 =>
    try simp only [Act.put, List.setIfInBounds_toArray, List.set_cons_zero, List.set_cons_succ]
    refine wpAnyH_take (i := 6) (oi := ?oim7) (v := ?vm7) ?him7 (by kernel_rfl) (by kernel_rfl) (by kernel_rfl) ?hQm7 (Or.inl ⟨?hwm7, ?hym7⟩) hHeld ?restm7
    case him7 => simp only [List.getElem?_toArray, List.getElem?_cons_succ, List.getElem?_cons_zero]; rfl
    case hQm7 => exact fun _ _ _ h => h
    case hwm7 => rfl
    case hym7 => (intro w9 hSw; obtain ⟨c0, c1, c2, c3, c4⟩ := (gr.ext hSw).cells; go_simp; (try with_reducible rfl))
    case restm7 =>
    try simp only [Act.put, List.setIfInBounds_toArray, List.set_cons_zero, List.set_cons_succ]
    refine wpAnyH_take (i := 7) (oi := ?oim8) (v := ?vm8) ?him8 (by kernel_rfl) (by kernel_rfl) (by kernel_rfl) ?hQm8 (Or.inl ⟨?hwm8, ?hym8⟩) hHeld ?restm8
    case him8 => simp only [List.getElem?_toArray, List.getElem?_cons_succ, List.getElem?_cons_zero]; rfl
    case hQm8 => exact fun _ _ _ h => h
    case hwm8 => rfl
    case hym8 => (intro w9 hSw; replace p0 := (Ext.cell hSw hbr).trans p0; replace p1 := (Ext.cell hSw hbr).trans p1; replace p2 := (Ext.cell hSw hbr).trans p2; replace p3 := (Ext.cell hSw hbr).trans p3; replace p4 := (Ext.cell hSw hbr).trans p4; replace p5 := (Ext.cell hSw hbr).trans p5; replace p6 := (Ext.cell hSw hbr).trans p6; replace p7 := (Ext.cell hSw hbr).trans p7; replace p8 := (Ext.cell hSw hbr).trans p8; go_simp; (try with_reducible rfl))
    case restm8 =>
    try simp only [Act.put, List.setIfInBounds_toArray, List.set_cons_zero, List.set_cons_succ]
    refine wpAnyH_ready (rs := [8]) (by kernel_rfl) (by simp) (AllReadyH.cons (o := ?om9) ?im9 (fun K hK => ?_) AllReadyH.nil)
    case im9 => simp only [List.getElem?_toArray, List.getElem?_cons_succ, List.getElem?_cons_zero]; rfl
    rw [if_pos (by rfl)]
    go_simp
    go_at_call 68
    (with_reducible refine (RP _ hHeld).mono ?_)
    rintro e wz ⟨rfl, xz⟩
    refine hK.out _ _ (hHeld.trans xz) (fun hHeld => ?_)
    clear hK K
    try simp only [List.setIfInBounds_toArray, List.set_cons_zero, List.set_cons_succ]
    refine wpAnyH_take (i := 9) (oi := ?oim10) (v := ?vm10) ?him10 (by kernel_rfl) (by kernel_rfl) (by kernel_rfl) ?hQm10 (Or.inl ⟨?hwm10, ?hym10⟩) hHeld ?restm10
    case him10 => simp only [List.getElem?_toArray, List.getElem?_cons_succ, List.getElem?_cons_zero]; rfl
    case hQm10 => exact fun _ _ _ h => h
    case hwm10 => rfl
    case hym10 => (intro w9 hSw; skip; go_simp; (try with_reducible rfl))
    case restm10 =>
    try simp only [Act.put, List.setIfInBounds_toArray, List.set_cons_zero, List.set_cons_succ]
    refine wpAnyH_take (i := 10) (oi := ?oim11) (v := ?vm11) ?him11 (by kernel_rfl) (by kernel_rfl) (by kernel_rfl) ?hQm11 (Or.inl ⟨?hwm11, ?hym11⟩) hHeld ?restm11
    case him11 => simp only [List.getElem?_toArray, List.getElem?_cons_succ, List.getElem?_cons_zero]; rfl
    case hQm11 => exact fun _ _ _ h => h
    case hwm11 => rfl
    case hym11 => (intro w9 hSw; skip; go_simp; (try with_reducible rfl))
    case restm11 =>
    try simp only [Act.put, List.setIfInBounds_toArray, List.set_cons_zero, List.set_cons_succ]
    refine wpAnyH_take (i := 11) (oi := ?oim12) (v := undef) ?him12 (by kernel_rfl) (by kernel_rfl) (by kernel_rfl) ?hQm12 (Or.inr ⟨?hwm12, rfl⟩) hHeld ?restm12
    case him12 => simp only [List.getElem?_toArray, List.getElem?_cons_succ, List.getElem?_cons_zero]; rfl
    case hQm12 => exact fun _ _ _ h => h
    case hwm12 => rfl
    case restm12 =>
    try simp only [Act.put, List.setIfInBounds_toArray, List.set_cons_zero, List.set_cons_succ]
    refine wpAnyH_take (i := 12) (oi := ?oim13) (v := undef) ?him13 (by kernel_rfl) (by kernel_rfl) (by kernel_rfl) ?hQm13 (Or.inr ⟨?hwm13, rfl⟩) hHeld ?restm13
    case him13 => simp only [List.getElem?_toArray, List.getElem?_cons_succ, List.getElem?_cons_zero]; rfl
    case hQm13 => exact fun _ _ _ h => h
    case hwm13 => rfl
    case restm13 =>
    try simp only [Act.put, List.setIfInBounds_toArray, List.set_cons_zero, List.set_cons_succ]
    refine wpAnyH_take (i := 13) (oi := ?oim14) (v := undef) ?him14 (by kernel_rfl) (by kernel_rfl) (by kernel_rfl) ?hQm14 (Or.inr ⟨?hwm14, rfl⟩) hHeld ?restm14
    case him14 => simp only [List.getElem?_toArray, List.getElem?_cons_succ, List.getElem?_cons_zero]; rfl
    case hQm14 => exact fun _ _ _ h => h
    case hwm14 => rfl
    case restm14 =>
    try simp only [Act.put, List.setIfInBounds_toArray, List.set_cons_zero, List.set_cons_succ]
    refine wpAnyH_take (i := 14) (oi := ?oim15) (v := undef) ?him15 (by kernel_rfl) (by kernel_rfl) (by kernel_rfl) ?hQm15 (Or.inr ⟨?hwm15, rfl⟩) hHeld ?restm15
    case him15 => simp only [List.getElem?_toArray, List.getElem?_cons_succ, List.getElem?_cons_zero]; rfl
    case hQm15 => exact fun _ _ _ h => h
    case hwm15 => rfl
    case restm15 =>
    try simp only [Act.put, List.setIfInBounds_toArray, List.set_cons_zero, List.set_cons_succ]
    refine wpAnyH_take (i := 15) (oi := ?oim16) (v := undef) ?him16 (by kernel_rfl) (by kernel_rfl) (by kernel_rfl) ?hQm16 (Or.inr ⟨?hwm16, rfl⟩) hHeld ?restm16
    case him16 => simp only [List.getElem?_toArray, List.getElem?_cons_succ, List.getElem?_cons_zero]; rfl
    case hQm16 => exact fun _ _ _ h => h
    case hwm16 => rfl
    case restm16 =>
    try simp only [Act.put, List.setIfInBounds_toArray, List.set_cons_zero, List.set_cons_succ]
    refine wpAnyH_take (i := 16) (oi := ?oim17) (v := undef) ?him17 (by kernel_rfl) (by kernel_rfl) (by kernel_rfl) ?hQm17 (Or.inr ⟨?hwm17, rfl⟩) hHeld ?restm17
    case him17 => simp only [List.getElem?_toArray, List.getElem?_cons_succ, List.getElem?_cons_zero]; rfl
    case hQm17 => exact fun _ _ _ h => h
    case hwm17 => rfl
    case restm17 =>
    try simp only [Act.put, List.setIfInBounds_toArray, List.set_cons_zero, List.set_cons_succ]
    refine wpAnyH_take (i := 17) (oi := ?oim18) (v := undef) ?him18 (by kernel_rfl) (by kernel_rfl) (by kernel_rfl) ?hQm18 (Or.inr ⟨?hwm18, rfl⟩) hHeld ?restm18
    case him18 => simp only [List.getElem?_toArray, List.getElem?_cons_succ, List.getElem?_cons_zero]; rfl
    case hQm18 => exact fun _ _ _ h => h
    case hwm18 => rfl
    case restm18 =>
    try simp only [Act.put, List.setIfInBounds_toArray, List.set_cons_zero, List.set_cons_succ]
    refine wpAnyH_take (i := 18) (oi := ?oim19) (v := undef) ?him19 (by kernel_rfl) (by kernel_rfl) (by kernel_rfl) ?hQm19 (Or.inr ⟨?hwm19, rfl⟩) hHeld ?restm19
    case him19 => simp only [List.getElem?_toArray, List.getElem?_cons_succ, List.getElem?_cons_zero]; rfl
    case hQm19 => exact fun _ _ _ h => h
    case hwm19 => rfl
    case restm19 =>
    try simp only [Act.put, List.setIfInBounds_toArray, List.set_cons_zero, List.set_cons_succ]
    refine wpAnyH_take (i := 19) (oi := ?oim20) (v := undef) ?him20 (by kernel_rfl) (by kernel_rfl) (by kernel_rfl) ?hQm20 (Or.inr ⟨?hwm20, rfl⟩) hHeld ?restm20
    case him20 => simp only [List.getElem?_toArray, List.getElem?_cons_succ, List.getElem?_cons_zero]; rfl
    case hQm20 => exact fun _ _ _ h => h
    case hwm20 => rfl
    case restm20 =>
    try simp only [Act.put, List.setIfInBounds_toArray, List.set_cons_zero, List.set_cons_succ]
    refine wpAnyH_take (i := 20) (oi := ?oim21) (v := undef) ?him21 (by kernel_rfl) (by kernel_rfl) (by kernel_rfl) ?hQm21 (Or.inr ⟨?hwm21, rfl⟩) hHeld ?restm21
    case him21 => simp only [List.getElem?_toArray, List.getElem?_cons_succ, List.getElem?_cons_zero]; rfl
    case hQm21 => exact fun _ _ _ h => h
    case hwm21 => rfl
    case restm21 =>
    try simp only [Act.put, List.setIfInBounds_toArray, List.set_cons_zero, List.set_cons_succ]
    refine wpAnyH_take (i := 21) (oi := ?oim22) (v := undef) ?him22 (by kernel_rfl) (by kernel_rfl) (by kernel_rfl) ?hQm22 (Or.inr ⟨?hwm22, rfl⟩) hHeld ?restm22
    case him22 => simp only [List.getElem?_toArray, List.getElem?_cons_succ, List.getElem?_cons_zero]; rfl
    case hQm22 => exact fun _ _ _ h => h
    case hwm22 => rfl
    case restm22 =>
    try simp only [Act.put, List.setIfInBounds_toArray, List.set_cons_zero, List.set_cons_succ]
    refine wpAnyH_take (i := 22) (oi := ?oim23) (v := undef) ?him23 (by kernel_rfl) (by kernel_rfl) (by kernel_rfl) ?hQm23 (Or.inr ⟨?hwm23, rfl⟩) hHeld ?restm23
    case him23 => simp only [List.getElem?_toArray, List.getElem?_cons_succ, List.getElem?_cons_zero]; rfl
    case hQm23 => exact fun _ _ _ h => h
    case hwm23 => rfl
    case restm23 =>
    try simp only [Act.put, List.setIfInBounds_toArray, List.set_cons_zero, List.set_cons_succ]
    refine wpAnyH_take (i := 23) (oi := ?oim24) (v := undef) ?him24 (by kernel_rfl) (by kernel_rfl) (by kernel_rfl) ?hQm24 (Or.inr ⟨?hwm24, rfl⟩) hHeld ?restm24
    case him24 => simp only [List.getElem?_toArray, List.getElem?_cons_succ, List.getElem?_cons_zero]; rfl
    case hQm24 => exact fun _ _ _ h => h
    case hwm24 => rfl
    case restm24 =>
    try simp only [Act.put, List.setIfInBounds_toArray, List.set_cons_zero, List.set_cons_succ]
    refine wpAnyH_take (i := 24) (oi := ?oim25) (v := undef) ?him25 (by kernel_rfl) (by kernel_rfl) (by kernel_rfl) ?hQm25 (Or.inr ⟨?hwm25, rfl⟩) hHeld ?restm25
    case him25 => simp only [List.getElem?_toArray, List.getElem?_cons_succ, List.getElem?_cons_zero]; rfl
    case hQm25 => exact fun _ _ _ h => h
    case hwm25 => rfl
    case restm25 =>
    try simp only [Act.put, List.setIfInBounds_toArray, List.set_cons_zero, List.set_cons_succ]
    refine wpAnyH_take (i := 25) (oi := ?oim26) (v := undef) ?him26 (by kernel_rfl) (by kernel_rfl) (by kernel_rfl) ?hQm26 (Or.inr ⟨?hwm26, rfl⟩) hHeld ?restm26
    case him26 => simp only [List.getElem?_toArray, List.getElem?_cons_succ, List.getElem?_cons_zero]; rfl
    case hQm26 => exact fun _ _ _ h => h
    case hwm26 => rfl
    case restm26 =>
    try simp only [Act.put, List.setIfInBounds_toArray, List.set_cons_zero, List.set_cons_succ]
    refine wpAnyH_take (i := 26) (oi := ?oim27) (v := undef) ?him27 (by kernel_rfl) (by kernel_rfl) (by kernel_rfl) ?hQm27 (Or.inr ⟨?hwm27, rfl⟩) hHeld ?restm27
    case him27 => simp only [List.getElem?_toArray, List.getElem?_cons_succ, List.getElem?_cons_zero]; rfl
    case hQm27 => exact fun _ _ _ h => h
    case hwm27 => rfl
    case restm27 =>
    try simp only [Act.put, List.setIfInBounds_toArray, List.set_cons_zero, List.set_cons_succ]
    refine wpAnyH_take (i := 27) (oi := ?oim28) (v := undef) ?him28 (by kernel_rfl) (by kernel_rfl) (by kernel_rfl) ?hQm28 (Or.inr ⟨?hwm28, rfl⟩) hHeld ?restm28
    case him28 => simp only [List.getElem?_toArray, List.getElem?_cons_succ, List.getElem?_cons_zero]; rfl
    case hQm28 => exact fun _ _ _ h => h
    case hwm28 => rfl
    case restm28 =>
    try simp only [Act.put, List.setIfInBounds_toArray, List.set_cons_zero, List.set_cons_succ]
    refine wpAnyH_take (i := 28) (oi := ?oim29) (v := ?vm29) ?him29 (by kernel_rfl) (by kernel_rfl) (by kernel_rfl) ?hQm29 (Or.inl ⟨?hwm29, ?hym29⟩) hHeld ?restm29
    case him29 => simp only [List.getElem?_toArray, List.getElem?_cons_succ, List.getElem?_cons_zero]; rfl
    case hQm29 => exact fun _ _ _ h => h
    case hwm29 => rfl
    case hym29 => (intro w9 hSw; skip; go_simp; (try with_reducible rfl))
    case restm29 =>
    try simp only [Act.put, List.setIfInBounds_toArray, List.set_cons_zero, List.set_cons_succ]
    refine wpAnyH_done (by kernel_rfl) ?_ _
    go_wp2_with fail
    go_ret
    exact ⟨retB HV.out, (z1.trans xr).trans hHeld⟩
   ·cases k with
    | zero =>
      have hd2 : Hid (famGo kd (((l.map PtD.y).take (0 + 1)).getLast?.map (fun y => y.1)) ((l.map PtD.y).drop (0 + 1)) = R) := Lib.hid (by
       rw [htl, ← hd]
       show _ = famGo kd none (l[0].y :: _)
       rw [famGo, hgk]
       rfl)
      clear hd hg htl
      generalize l[0] = p at *
      rw [Nat.zero_mul, Nat.add_zero] at p0 p1 p2 p3 p4 p5 p6 p7 p8
      unfold PtD.v ptV at RP
      clear hp hL ok1 hgk
      go_wp2_with fail
      refine wp_region_held_drew (S := Ext wr) (by kernel_rfl) ((Ext.refl wr).drew) (fun hHeld => ?_)
      refine wpAnyH_take (i := 0) (oi := ?oim30) (v := ?vm30) ?him30 (by kernel_rfl) (by kernel_rfl) (by kernel_rfl) ?hQm30 (Or.inl ⟨?hwm30, ?hym30⟩) hHeld ?restm30
      case him30 => simp only [List.getElem?_toArray, List.getElem?_cons_zero]; rfl
      case hQm30 => exact fun _ _ _ h => h
      case hwm30 => rfl
      case hym30 => (intro w9 hSw; obtain ⟨c0, c1, c2, c3, c4⟩ := (gr.ext hSw).cells; go_simp; (try with_reducible rfl))
      case restm30 =>
      try simp only [Act.put, List.setIfInBounds_toArray, List.set_cons_zero, List.set_cons_succ]
      refine wpAnyH_take (i := 1) (oi := ?oim31) (v := ?vm31) ?him31 (by kernel_rfl) (by kernel_rfl) (by kernel_rfl) ?hQm31 (Or.inl ⟨?hwm31, ?hym31⟩) hHeld ?restm31
      case him31 => simp only [List.getElem?_toArray, List.getElem?_cons_succ, List.getElem?_cons_zero]; rfl
      case hQm31 => exact fun _ _ _ h => h
      case hwm31 => rfl
      case hym31 => (intro w9 hSw; obtain ⟨c0, c1, c2, c3, c4⟩ := (gr.ext hSw).cells; go_simp; (try with_reducible rfl))
      case restm31 =>
      try simp only [Act.put, List.setIfInBounds_toArray, List.set_cons_zero, List.set_cons_succ]
      refine wpAnyH_take (i := 2) (oi := ?oim32) (v := ?vm32) ?him32 (by kernel_rfl) (by kernel_rfl) (by kernel_rfl) ?hQm32 (Or.inl ⟨?hwm32, ?hym32⟩) hHeld ?restm32
      case him32 => simp only [List.getElem?_toArray, List.getElem?_cons_succ, List.getElem?_cons_zero]; rfl
      case hQm32 => exact fun _ _ _ h => h
      case hwm32 => rfl
      case hym32 => (intro w9 hSw; obtain ⟨c0, c1, c2, c3, c4⟩ := (gr.ext hSw).cells; go_simp; (try with_reducible rfl))
      case restm32 =>
      try simp only [Act.put, List.setIfInBounds_toArray, List.set_cons_zero, List.set_cons_succ]
      refine wpAnyH_take (i := 3) (oi := ?oim33) (v := ?vm33) ?him33 (by kernel_rfl) (by kernel_rfl) (by kernel_rfl) ?hQm33 (Or.inl ⟨?hwm33, ?hym33⟩) hHeld ?restm33
      case him33 => simp only [List.getElem?_toArray, List.getElem?_cons_succ, List.getElem?_cons_zero]; rfl
      case hQm33 => exact fun _ _ _ h => h
      case hwm33 => rfl
      case hym33 => (intro w9 hSw; obtain ⟨c0, c1, c2, c3, c4⟩ := (gr.ext hSw).cells; go_simp; (try with_reducible rfl))
      case restm33 =>
      try simp only [Act.put, List.setIfInBounds_toArray, List.set_cons_zero, List.set_cons_succ]
      refine wpAnyH_take (i := 4) (oi := ?oim34) (v := ?vm34) ?him34 (by kernel_rfl) (by kernel_rfl) (by kernel_rfl) ?hQm34 (Or.inl ⟨?hwm34, ?hym34⟩) hHeld ?restm34
      case him34 => simp only [List.getElem?_toArray, List.getElem?_cons_succ, List.getElem?_cons_zero]; rfl
      case hQm34 => exact fun _ _ _ h => h
      case hwm34 => rfl
      case hym34 => (intro w9 hSw; obtain ⟨c0, c1, c2, c3, c4⟩ := (gr.ext hSw).cells; go_simp; (try with_reducible rfl))
      case restm34 =>
      try simp only [Act.put, List.setIfInBounds_toArray, List.set_cons_zero, List.set_cons_succ]
      refine wpAnyH_take (i := 5) (oi := ?oim35) (v := ?vm35) ?him35 (by kernel_rfl) (by kernel_rfl) (by kernel_rfl) ?hQm35 (Or.inl ⟨?hwm35, ?hym35⟩) hHeld ?restm35
      case him35 => simp only [List.getElem?_toArray, List.getElem?_cons_succ, List.getElem?_cons_zero]; rfl
      case hQm35 => exact fun _ _ _ h => h
      case hwm35 => rfl
      case hym35 => (intro w9 hSw; obtain ⟨c0, c1, c2, c3, c4⟩ := (gr.ext hSw).cells; go_simp; (try with_reducible rfl))
      case restm35 =>
      try simp only [Act.put, List.setIfInBounds_toArray, List.set_cons_zero, List.set_cons_succ]
      refine wpAnyH_take (i := 6) (oi := ?oim36) (v := ?vm36) ?him36 (by kernel_rfl) (by kernel_rfl) (by kernel_rfl) ?hQm36 (Or.inl ⟨?hwm36, ?hym36⟩) hHeld ?restm36
      case him36 => simp only [List.getElem?_toArray, List.getElem?_cons_succ, List.getElem?_cons_zero]; rfl
      case hQm36 => exact fun _ _ _ h => h
      case hwm36 => rfl
      case hym36 => (intro w9 hSw; obtain ⟨c0, c1, c2, c3, c4⟩ := (gr.ext hSw).cells; go_simp; (try with_reducible rfl))
      case restm36 =>
      try simp only [Act.put, List.setIfInBounds_toArray, List.set_cons_zero, List.set_cons_succ]
      refine wpAnyH_take (i := 7) (oi := ?oim37) (v := ?vm37) ?him37 (by kernel_rfl) (by kernel_rfl) (by kernel_rfl) ?hQm37 (Or.inl ⟨?hwm37, ?hym37⟩) hHeld ?restm37
      case him37 => simp only [List.getElem?_toArray, List.getElem?_cons_succ, List.getElem?_cons_zero]; rfl
      case hQm37 => exact fun _ _ _ h => h
      case hwm37 => rfl
      case hym37 => (intro w9 hSw; replace p0 := (Ext.cell hSw hbr).trans p0; replace p1 := (Ext.cell hSw hbr).trans p1; replace p2 := (Ext.cell hSw hbr).trans p2; replace p3 := (Ext.cell hSw hbr).trans p3; replace p4 := (Ext.cell hSw hbr).trans p4; replace p5 := (Ext.cell hSw hbr).trans p5; replace p6 := (Ext.cell hSw hbr).trans p6; replace p7 := (Ext.cell hSw hbr).trans p7; replace p8 := (Ext.cell hSw hbr).trans p8; go_simp; (try with_reducible rfl))
      case restm37 =>
      try simp only [Act.put, List.setIfInBounds_toArray, List.set_cons_zero, List.set_cons_succ]
      refine wpAnyH_ready (rs := [8]) (by kernel_rfl) (by simp) (AllReadyH.cons (o := ?om38) ?im38 (fun K hK => ?_) AllReadyH.nil)
      case im38 => simp only [List.getElem?_toArray, List.getElem?_cons_succ, List.getElem?_cons_zero]; rfl
      rw [if_pos (by rfl)]
      go_simp
      go_at_call 68
      (with_reducible refine (RP _ hHeld).mono ?_)
      rintro e wz ⟨rfl, xz⟩
      refine hK.out _ _ (hHeld.trans xz) (fun hHeld => ?_)
      clear hK K
      try simp only [List.setIfInBounds_toArray, List.set_cons_zero, List.set_cons_succ]
      refine wpAnyH_take (i := 9) (oi := ?oim39) (v := ?vm39) ?him39 (by kernel_rfl) (by kernel_rfl) (by kernel_rfl) ?hQm39 (Or.inl ⟨?hwm39, ?hym39⟩) hHeld ?restm39
      case him39 => simp only [List.getElem?_toArray, List.getElem?_cons_succ, List.getElem?_cons_zero]; rfl
      case hQm39 => exact fun _ _ _ h => h
      case hwm39 => rfl
      case hym39 => (intro w9 hSw; skip; go_simp; (try with_reducible rfl))
      case restm39 =>
      try simp only [Act.put, List.setIfInBounds_toArray, List.set_cons_zero, List.set_cons_succ]
      refine wpAnyH_take (i := 10) (oi := ?oim40) (v := ?vm40) ?him40 (by kernel_rfl) (by kernel_rfl) (by kernel_rfl) ?hQm40 (Or.inl ⟨?hwm40, ?hym40⟩) hHeld ?restm40
      case him40 => simp only [List.getElem?_toArray, List.getElem?_cons_succ, List.getElem?_cons_zero]; rfl
      case hQm40 => exact fun _ _ _ h => h
      case hwm40 => rfl
      case hym40 => (intro w9 hSw; skip; go_simp; (try with_reducible rfl))
      case restm40 =>
      try simp only [Act.put, List.setIfInBounds_toArray, List.set_cons_zero, List.set_cons_succ]
      refine wpAnyH_take (i := 11) (oi := ?oim41) (v := ?vm41) ?him41 (by kernel_rfl) (by kernel_rfl) (by kernel_rfl) ?hQm41 (Or.inl ⟨?hwm41, ?hym41⟩) hHeld ?restm41
      case him41 => simp only [List.getElem?_toArray, List.getElem?_cons_succ, List.getElem?_cons_zero]; rfl
      case hQm41 => exact fun _ _ _ h => h
      case hwm41 => rfl
      case hym41 => (intro w9 hSw; skip; go_simp; (try with_reducible rfl))
      case restm41 =>
      try simp only [Act.put, List.setIfInBounds_toArray, List.set_cons_zero, List.set_cons_succ]
      refine wpAnyH_take (i := 12) (oi := ?oim42) (v := ?vm42) ?him42 (by kernel_rfl) (by kernel_rfl) (by kernel_rfl) ?hQm42 (Or.inl ⟨?hwm42, ?hym42⟩) hHeld ?restm42
      case him42 => simp only [List.getElem?_toArray, List.getElem?_cons_succ, List.getElem?_cons_zero]; rfl
      case hQm42 => exact fun _ _ _ h => h
      case hwm42 => rfl
      case hym42 => (intro w9 hSw; skip; go_simp; (try with_reducible rfl))
      case restm42 =>
      try simp only [Act.put, List.setIfInBounds_toArray, List.set_cons_zero, List.set_cons_succ]
      refine wpAnyH_take (i := 13) (oi := ?oim43) (v := ?vm43) ?him43 (by kernel_rfl) (by kernel_rfl) (by kernel_rfl) ?hQm43 (Or.inl ⟨?hwm43, ?hym43⟩) hHeld ?restm43
      case him43 => simp only [List.getElem?_toArray, List.getElem?_cons_succ, List.getElem?_cons_zero]; rfl
      case hQm43 => exact fun _ _ _ h => h
      case hwm43 => rfl
      case hym43 => (intro w9 hSw; skip; go_simp; (try with_reducible rfl))
      case restm43 =>
      try simp only [Act.put, List.setIfInBounds_toArray, List.set_cons_zero, List.set_cons_succ]
      refine wpAnyH_take (i := 14) (oi := ?oim44) (v := undef) ?him44 (by kernel_rfl) (by kernel_rfl) (by kernel_rfl) ?hQm44 (Or.inr ⟨?hwm44, rfl⟩) hHeld ?restm44
      case him44 => simp only [List.getElem?_toArray, List.getElem?_cons_succ, List.getElem?_cons_zero]; rfl
      case hQm44 => exact fun _ _ _ h => h
      case hwm44 => rfl
      case restm44 =>
      try simp only [Act.put, List.setIfInBounds_toArray, List.set_cons_zero, List.set_cons_succ]
      refine wpAnyH_take (i := 15) (oi := ?oim45) (v := undef) ?him45 (by kernel_rfl) (by kernel_rfl) (by kernel_rfl) ?hQm45 (Or.inr ⟨?hwm45, rfl⟩) hHeld ?restm45
      case him45 => simp only [List.getElem?_toArray, List.getElem?_cons_succ, List.getElem?_cons_zero]; rfl
      case hQm45 => exact fun _ _ _ h => h
      case hwm45 => rfl
      case restm45 =>
      try simp only [Act.put, List.setIfInBounds_toArray, List.set_cons_zero, List.set_cons_succ]
      refine wpAnyH_take (i := 16) (oi := ?oim46) (v := undef) ?him46 (by kernel_rfl) (by kernel_rfl) (by kernel_rfl) ?hQm46 (Or.inr ⟨?hwm46, rfl⟩) hHeld ?restm46
      case him46 => simp only [List.getElem?_toArray, List.getElem?_cons_succ, List.getElem?_cons_zero]; rfl
      case hQm46 => exact fun _ _ _ h => h
      case hwm46 => rfl
      case restm46 =>
      try simp only [Act.put, List.setIfInBounds_toArray, List.set_cons_zero, List.set_cons_succ]
      refine wpAnyH_take (i := 17) (oi := ?oim47) (v := undef) ?him47 (by kernel_rfl) (by kernel_rfl) (by kernel_rfl) ?hQm47 (Or.inr ⟨?hwm47, rfl⟩) hHeld ?restm47
      case him47 => simp only [List.getElem?_toArray, List.getElem?_cons_succ, List.getElem?_cons_zero]; rfl
      case hQm47 => exact fun _ _ _ h => h
      case hwm47 => rfl
      case restm47 =>
      try simp only [Act.put, List.setIfInBounds_toArray, List.set_cons_zero, List.set_cons_succ]
      refine wpAnyH_take (i := 18) (oi := ?oim48) (v := undef) ?him48 (by kernel_rfl) (by kernel_rfl) (by kernel_rfl) ?hQm48 (Or.inr ⟨?hwm48, rfl⟩) hHeld ?restm48
      case him48 => simp only [List.getElem?_toArray, List.getElem?_cons_succ, List.getElem?_cons_zero]; rfl
      case hQm48 => exact fun _ _ _ h => h
      case hwm48 => rfl
      case restm48 =>
      try simp only [Act.put, List.setIfInBounds_toArray, List.set_cons_zero, List.set_cons_succ]
      refine wpAnyH_take (i := 19) (oi := ?oim49) (v := undef) ?him49 (by kernel_rfl) (by kernel_rfl) (by kernel_rfl) ?hQm49 (Or.inr ⟨?hwm49, rfl⟩) hHeld ?restm49
      case him49 => simp only [List.getElem?_toArray, List.getElem?_cons_succ, List.getElem?_cons_zero]; rfl
      case hQm49 => exact fun _ _ _ h => h
      case hwm49 => rfl
      case restm49 =>
      try simp only [Act.put, List.setIfInBounds_toArray, List.set_cons_zero, List.set_cons_succ]
      refine wpAnyH_take (i := 20) (oi := ?oim50) (v := undef) ?him50 (by kernel_rfl) (by kernel_rfl) (by kernel_rfl) ?hQm50 (Or.inr ⟨?hwm50, rfl⟩) hHeld ?restm50
      case him50 => simp only [List.getElem?_toArray, List.getElem?_cons_succ, List.getElem?_cons_zero]; rfl
      case hQm50 => exact fun _ _ _ h => h
      case hwm50 => rfl
      case restm50 =>
      try simp only [Act.put, List.setIfInBounds_toArray, List.set_cons_zero, List.set_cons_succ]
      refine wpAnyH_take (i := 21) (oi := ?oim51) (v := undef) ?him51 (by kernel_rfl) (by kernel_rfl) (by kernel_rfl) ?hQm51 (Or.inr ⟨?hwm51, rfl⟩) hHeld ?restm51
      case him51 => simp only [List.getElem?_toArray, List.getElem?_cons_succ, List.getElem?_cons_zero]; rfl
      case hQm51 => exact fun _ _ _ h => h
      case hwm51 => rfl
      case restm51 =>
      try simp only [Act.put, List.setIfInBounds_toArray, List.set_cons_zero, List.set_cons_succ]
      refine wpAnyH_take (i := 22) (oi := ?oim52) (v := undef) ?him52 (by kernel_rfl) (by kernel_rfl) (by kernel_rfl) ?hQm52 (Or.inr ⟨?hwm52, rfl⟩) hHeld ?restm52
      case him52 => simp only [List.getElem?_toArray, List.getElem?_cons_succ, List.getElem?_cons_zero]; rfl
      case hQm52 => exact fun _ _ _ h => h
      case hwm52 => rfl
      case restm52 =>
      try simp only [Act.put, List.setIfInBounds_toArray, List.set_cons_zero, List.set_cons_succ]
      refine wpAnyH_take (i := 23) (oi := ?oim53) (v := undef) ?him53 (by kernel_rfl) (by kernel_rfl) (by kernel_rfl) ?hQm53 (Or.inr ⟨?hwm53, rfl⟩) hHeld ?restm53
      case him53 => simp only [List.getElem?_toArray, List.getElem?_cons_succ, List.getElem?_cons_zero]; rfl
      case hQm53 => exact fun _ _ _ h => h
      case hwm53 => rfl
      case restm53 =>
      try simp only [Act.put, List.setIfInBounds_toArray, List.set_cons_zero, List.set_cons_succ]
      refine wpAnyH_take (i := 24) (oi := ?oim54) (v := undef) ?him54 (by kernel_rfl) (by kernel_rfl) (by kernel_rfl) ?hQm54 (Or.inr ⟨?hwm54, rfl⟩) hHeld ?restm54
      case him54 => simp only [List.getElem?_toArray, List.getElem?_cons_succ, List.getElem?_cons_zero]; rfl
      case hQm54 => exact fun _ _ _ h => h
      case hwm54 => rfl
      case restm54 =>
      try simp only [Act.put, List.setIfInBounds_toArray, List.set_cons_zero, List.set_cons_succ]
      refine wpAnyH_take (i := 25) (oi := ?oim55) (v := undef) ?him55 (by kernel_rfl) (by kernel_rfl) (by kernel_rfl) ?hQm55 (Or.inr ⟨?hwm55, rfl⟩) hHeld ?restm55
      case him55 => simp only [List.getElem?_toArray, List.getElem?_cons_succ, List.getElem?_cons_zero]; rfl
      case hQm55 => exact fun _ _ _ h => h
      case hwm55 => rfl
      case restm55 =>
      try simp only [Act.put, List.setIfInBounds_toArray, List.set_cons_zero, List.set_cons_succ]
      refine wpAnyH_take (i := 26) (oi := ?oim56) (v := undef) ?him56 (by kernel_rfl) (by kernel_rfl) (by kernel_rfl) ?hQm56 (Or.inr ⟨?hwm56, rfl⟩) hHeld ?restm56
      case him56 => simp only [List.getElem?_toArray, List.getElem?_cons_succ, List.getElem?_cons_zero]; rfl
      case hQm56 => exact fun _ _ _ h => h
      case hwm56 => rfl
      case restm56 =>
      try simp only [Act.put, List.setIfInBounds_toArray, List.set_cons_zero, List.set_cons_succ]
      refine wpAnyH_take (i := 27) (oi := ?oim57) (v := ?vm57) ?him57 (by kernel_rfl) (by kernel_rfl) (by kernel_rfl) ?hQm57 (Or.inl ⟨?hwm57, ?hym57⟩) hHeld ?restm57
      case him57 => simp only [List.getElem?_toArray, List.getElem?_cons_succ, List.getElem?_cons_zero]; rfl
      case hQm57 => exact fun _ _ _ h => h
      case hwm57 => rfl
      case hym57 => (intro w9 hSw; skip; go_simp; (try with_reducible rfl))
      case restm57 =>
      try simp only [Act.put, List.setIfInBounds_toArray, List.set_cons_zero, List.set_cons_succ]
      refine wpAnyH_take (i := 28) (oi := ?oim58) (v := ?vm58) ?him58 (by kernel_rfl) (by kernel_rfl) (by kernel_rfl) ?hQm58 (Or.inl ⟨?hwm58, ?hym58⟩) hHeld ?restm58
      case him58 => simp only [List.getElem?_toArray, List.getElem?_cons_succ, List.getElem?_cons_zero]; rfl
      case hQm58 => exact fun _ _ _ h => h
      case hwm58 => rfl
      case hym58 => (intro w9 hSw; skip; go_simp; (try with_reducible rfl))
      case restm58 =>
      try simp only [Act.put, List.setIfInBounds_toArray, List.set_cons_zero, List.set_cons_succ]
      refine wpAnyH_done (by kernel_rfl) ?_ _
      go_wp2_with fail
      go_roundw
      case rel => exact ⟨0 + 1, rfl, hlt, hd2, xr.trans hHeld⟩
      case measure => simp only [intOf]; omega
    | succ j =>
      have hj : j < l.length := by omega
      have hj' : j < (l.map PtD.y).length := by simpa using hj
      have hpr : (((l.map PtD.y).take (j + 1)).getLast?.map (fun y => y.1)) = some l[j].k := by
       rw [List.take_add_one, List.getElem?_eq_getElem hj', Option.toList_some, List.getLast?_append]
       simp [PtD.y]
      rw [hpr, famGo, hgk, Bool.true_and] at hd
      have ok2 := hp.2 _ (List.getElem_mem hj)
      obtain ⟨q0, q1, q2, q3, q4, q5, q6, q7, q8⟩ := hL j hj
      have CP := fun W (x : Ext wr W) => rcmpD_any l[j] l[j + 1] W (ok2.ext x) (ok1.ext x)
      obtain ⟨cv, hcv⟩ : ∃ cv, cmpK l[j].k l[j + 1].k = cv := ⟨_, rfl⟩
      rw [show l[j + 1].y.1 = l[j + 1].k from rfl] at hd
      rw [hcv] at CP hd
      have hd3 : Hid (decide (cv < 0) = true → famGo kd (((l.map PtD.y).take (j + 1 + 1)).getLast?.map (fun y => y.1)) ((l.map PtD.y).drop (j + 1 + 1)) = R) := Lib.hid (fun h => by rw [htl, ← hd, h, Bool.true_and])
      have hd4 : Hid (decide (cv < 0) = false → false = R) := Lib.hid (fun h => by rw [← hd, h, Bool.false_and])
      have i1 : IntKind.i64.wrap (j : Int) = (j : Int) := IntWalk.i64_in _ (by omega)
      have i2 : (j : Int) < (l.length : Int) := by omega
      have i3 : (0 : Int) < (j : Int) + 1 := by omega
      have i4 : (0 : Int) ≤ (j : Int) + 1 := by omega
      have i5 : (j : Int) + 1 < (l.length : Int) := by omega
      clear hd hg htl hpr
      generalize l[j + 1] = p at *
      generalize l[j] = q at *
      unfold PtD.v ptV at RP CP
      clear hp hL ok1 ok2 hgk hcv
      by_cases h0 : cv < 0
      ·have hd5 := Lib.hid (hd3.out (decide_eq_true h0))
       have i6 : ¬ cv ≥ 0 := by omega
       clear hd3 hd4
       go_wp2_with fail
       refine wp_region_held_drew (S := Ext wr) (by kernel_rfl) ((Ext.refl wr).drew) (fun hHeld => ?_)
       refine wpAnyH_take (i := 0) (oi := ?oim59) (v := ?vm59) ?him59 (by kernel_rfl) (by kernel_rfl) (by kernel_rfl) ?hQm59 (Or.inl ⟨?hwm59, ?hym59⟩) hHeld ?restm59
       case him59 => simp only [List.getElem?_toArray, List.getElem?_cons_zero]; rfl
       case hQm59 => exact fun _ _ _ h => h
       case hwm59 => rfl
       case hym59 => (intro w9 hSw; obtain ⟨c0, c1, c2, c3, c4⟩ := (gr.ext hSw).cells; go_simp; (try with_reducible rfl))
       case restm59 =>
       try simp only [Act.put, List.setIfInBounds_toArray, List.set_cons_zero, List.set_cons_succ]
       refine wpAnyH_take (i := 1) (oi := ?oim60) (v := ?vm60) ?him60 (by kernel_rfl) (by kernel_rfl) (by kernel_rfl) ?hQm60 (Or.inl ⟨?hwm60, ?hym60⟩) hHeld ?restm60
       case him60 => simp only [List.getElem?_toArray, List.getElem?_cons_succ, List.getElem?_cons_zero]; rfl
       case hQm60 => exact fun _ _ _ h => h
       case hwm60 => rfl
       case hym60 => (intro w9 hSw; obtain ⟨c0, c1, c2, c3, c4⟩ := (gr.ext hSw).cells; go_simp; (try with_reducible rfl))
       case restm60 =>
       try simp only [Act.put, List.setIfInBounds_toArray, List.set_cons_zero, List.set_cons_succ]
       refine wpAnyH_take (i := 2) (oi := ?oim61) (v := ?vm61) ?him61 (by kernel_rfl) (by kernel_rfl) (by kernel_rfl) ?hQm61 (Or.inl ⟨?hwm61, ?hym61⟩) hHeld ?restm61
       case him61 => simp only [List.getElem?_toArray, List.getElem?_cons_succ, List.getElem?_cons_zero]; rfl
       case hQm61 => exact fun _ _ _ h => h
       case hwm61 => rfl
       case hym61 => (intro w9 hSw; obtain ⟨c0, c1, c2, c3, c4⟩ := (gr.ext hSw).cells; go_simp; (try with_reducible rfl))
       case restm61 =>
       try simp only [Act.put, List.setIfInBounds_toArray, List.set_cons_zero, List.set_cons_succ]
       refine wpAnyH_take (i := 3) (oi := ?oim62) (v := ?vm62) ?him62 (by kernel_rfl) (by kernel_rfl) (by kernel_rfl) ?hQm62 (Or.inl ⟨?hwm62, ?hym62⟩) hHeld ?restm62
       case him62 => simp only [List.getElem?_toArray, List.getElem?_cons_succ, List.getElem?_cons_zero]; rfl
       case hQm62 => exact fun _ _ _ h => h
       case hwm62 => rfl
       case hym62 => (intro w9 hSw; obtain ⟨c0, c1, c2, c3, c4⟩ := (gr.ext hSw).cells; go_simp; (try with_reducible rfl))
       case restm62 =>
       try simp only [Act.put, List.setIfInBounds_toArray, List.set_cons_zero, List.set_cons_succ]
       refine wpAnyH_take (i := 4) (oi := ?oim63) (v := ?vm63) ?him63 (by kernel_rfl) (by kernel_rfl) (by kernel_rfl) ?hQm63 (Or.inl ⟨?hwm63, ?hym63⟩) hHeld ?restm63
       case him63 => simp only [List.getElem?_toArray, List.getElem?_cons_succ, List.getElem?_cons_zero]; rfl
       case hQm63 => exact fun _ _ _ h => h
       case hwm63 => rfl
       case hym63 => (intro w9 hSw; obtain ⟨c0, c1, c2, c3, c4⟩ := (gr.ext hSw).cells; go_simp; (try with_reducible rfl))
       case restm63 =>
       try simp only [Act.put, List.setIfInBounds_toArray, List.set_cons_zero, List.set_cons_succ]
       refine wpAnyH_take (i := 5) (oi := ?oim64) (v := ?vm64) ?him64 (by kernel_rfl) (by kernel_rfl) (by kernel_rfl) ?hQm64 (Or.inl ⟨?hwm64, ?hym64⟩) hHeld ?restm64
       case him64 => simp only [List.getElem?_toArray, List.getElem?_cons_succ, List.getElem?_cons_zero]; rfl
       case hQm64 => exact fun _ _ _ h => h
       case hwm64 => rfl
       case hym64 => (intro w9 hSw; obtain ⟨c0, c1, c2, c3, c4⟩ := (gr.ext hSw).cells; go_simp; (try with_reducible rfl))
       case restm64 =>
       try simp only [Act.put, List.setIfInBounds_toArray, List.set_cons_zero, List.set_cons_succ]
       refine wpAnyH_take (i := 6) (oi := ?oim65) (v := ?vm65) ?him65 (by kernel_rfl) (by kernel_rfl) (by kernel_rfl) ?hQm65 (Or.inl ⟨?hwm65, ?hym65⟩) hHeld ?restm65
       case him65 => simp only [List.getElem?_toArray, List.getElem?_cons_succ, List.getElem?_cons_zero]; rfl
       case hQm65 => exact fun _ _ _ h => h
       case hwm65 => rfl
       case hym65 => (intro w9 hSw; obtain ⟨c0, c1, c2, c3, c4⟩ := (gr.ext hSw).cells; go_simp; (try with_reducible rfl))
       case restm65 =>
       try simp only [Act.put, List.setIfInBounds_toArray, List.set_cons_zero, List.set_cons_succ]
       refine wpAnyH_take (i := 7) (oi := ?oim66) (v := ?vm66) ?him66 (by kernel_rfl) (by kernel_rfl) (by kernel_rfl) ?hQm66 (Or.inl ⟨?hwm66, ?hym66⟩) hHeld ?restm66
       case him66 => simp only [List.getElem?_toArray, List.getElem?_cons_succ, List.getElem?_cons_zero]; rfl
       case hQm66 => exact fun _ _ _ h => h
       case hwm66 => rfl
       case hym66 => (intro w9 hSw; replace p0 := (Ext.cell hSw hbr).trans p0; replace p1 := (Ext.cell hSw hbr).trans p1; replace p2 := (Ext.cell hSw hbr).trans p2; replace p3 := (Ext.cell hSw hbr).trans p3; replace p4 := (Ext.cell hSw hbr).trans p4; replace p5 := (Ext.cell hSw hbr).trans p5; replace p6 := (Ext.cell hSw hbr).trans p6; replace p7 := (Ext.cell hSw hbr).trans p7; replace p8 := (Ext.cell hSw hbr).trans p8; go_simp; (try with_reducible rfl))
       case restm66 =>
       try simp only [Act.put, List.setIfInBounds_toArray, List.set_cons_zero, List.set_cons_succ]
       refine wpAnyH_ready (rs := [8]) (by kernel_rfl) (by simp) (AllReadyH.cons (o := ?om67) ?im67 (fun K hK => ?_) AllReadyH.nil)
       case im67 => simp only [List.getElem?_toArray, List.getElem?_cons_succ, List.getElem?_cons_zero]; rfl
       rw [if_pos (by rfl)]
       go_simp
       go_at_call 68
       (with_reducible refine (RP _ hHeld).mono ?_)
       rintro e wz ⟨rfl, xz⟩
       refine hK.out _ _ (hHeld.trans xz) (fun hHeld => ?_)
       clear hK K
       try simp only [List.setIfInBounds_toArray, List.set_cons_zero, List.set_cons_succ]
       refine wpAnyH_take (i := 9) (oi := ?oim68) (v := ?vm68) ?him68 (by kernel_rfl) (by kernel_rfl) (by kernel_rfl) ?hQm68 (Or.inl ⟨?hwm68, ?hym68⟩) hHeld ?restm68
       case him68 => simp only [List.getElem?_toArray, List.getElem?_cons_succ, List.getElem?_cons_zero]; rfl
       case hQm68 => exact fun _ _ _ h => h
       case hwm68 => rfl
       case hym68 => (intro w9 hSw; skip; go_simp; (try with_reducible rfl))
       case restm68 =>
       try simp only [Act.put, List.setIfInBounds_toArray, List.set_cons_zero, List.set_cons_succ]
       refine wpAnyH_take (i := 10) (oi := ?oim69) (v := ?vm69) ?him69 (by kernel_rfl) (by kernel_rfl) (by kernel_rfl) ?hQm69 (Or.inl ⟨?hwm69, ?hym69⟩) hHeld ?restm69
       case him69 => simp only [List.getElem?_toArray, List.getElem?_cons_succ, List.getElem?_cons_zero]; rfl
       case hQm69 => exact fun _ _ _ h => h
       case hwm69 => rfl
       case hym69 => (intro w9 hSw; skip; go_simp; (try with_reducible rfl))
       case restm69 =>
       try simp only [Act.put, List.setIfInBounds_toArray, List.set_cons_zero, List.set_cons_succ]
       refine wpAnyH_take (i := 11) (oi := ?oim70) (v := ?vm70) ?him70 (by kernel_rfl) (by kernel_rfl) (by kernel_rfl) ?hQm70 (Or.inl ⟨?hwm70, ?hym70⟩) hHeld ?restm70
       case him70 => simp only [List.getElem?_toArray, List.getElem?_cons_succ, List.getElem?_cons_zero]; rfl
       case hQm70 => exact fun _ _ _ h => h
       case hwm70 => rfl
       case hym70 => (intro w9 hSw; obtain ⟨c0, c1, c2, c3, c4⟩ := (gr.ext hSw).cells; go_simp; (try with_reducible rfl))
       case restm70 =>
       try simp only [Act.put, List.setIfInBounds_toArray, List.set_cons_zero, List.set_cons_succ]
       refine wpAnyH_take (i := 12) (oi := ?oim71) (v := ?vm71) ?him71 (by kernel_rfl) (by kernel_rfl) (by kernel_rfl) ?hQm71 (Or.inl ⟨?hwm71, ?hym71⟩) hHeld ?restm71
       case him71 => simp only [List.getElem?_toArray, List.getElem?_cons_succ, List.getElem?_cons_zero]; rfl
       case hQm71 => exact fun _ _ _ h => h
       case hwm71 => rfl
       case hym71 => (intro w9 hSw; obtain ⟨c0, c1, c2, c3, c4⟩ := (gr.ext hSw).cells; go_simp; (try with_reducible rfl))
       case restm71 =>
       try simp only [Act.put, List.setIfInBounds_toArray, List.set_cons_zero, List.set_cons_succ]
       refine wpAnyH_take (i := 13) (oi := ?oim72) (v := ?vm72) ?him72 (by kernel_rfl) (by kernel_rfl) (by kernel_rfl) ?hQm72 (Or.inl ⟨?hwm72, ?hym72⟩) hHeld ?restm72
       case him72 => simp only [List.getElem?_toArray, List.getElem?_cons_succ, List.getElem?_cons_zero]; rfl
       case hQm72 => exact fun _ _ _ h => h
       case hwm72 => rfl
       case hym72 => (intro w9 hSw; obtain ⟨c0, c1, c2, c3, c4⟩ := (gr.ext hSw).cells; go_simp; (try with_reducible rfl))
       case restm72 =>
       try simp only [Act.put, List.setIfInBounds_toArray, List.set_cons_zero, List.set_cons_succ]
       refine wpAnyH_take (i := 14) (oi := ?oim73) (v := ?vm73) ?him73 (by kernel_rfl) (by kernel_rfl) (by kernel_rfl) ?hQm73 (Or.inl ⟨?hwm73, ?hym73⟩) hHeld ?restm73
       case him73 => simp only [List.getElem?_toArray, List.getElem?_cons_succ, List.getElem?_cons_zero]; rfl
       case hQm73 => exact fun _ _ _ h => h
       case hwm73 => rfl
       case hym73 => (intro w9 hSw; obtain ⟨c0, c1, c2, c3, c4⟩ := (gr.ext hSw).cells; go_simp; (try with_reducible rfl))
       case restm73 =>
       try simp only [Act.put, List.setIfInBounds_toArray, List.set_cons_zero, List.set_cons_succ]
       refine wpAnyH_take (i := 15) (oi := ?oim74) (v := ?vm74) ?him74 (by kernel_rfl) (by kernel_rfl) (by kernel_rfl) ?hQm74 (Or.inl ⟨?hwm74, ?hym74⟩) hHeld ?restm74
       case him74 => simp only [List.getElem?_toArray, List.getElem?_cons_succ, List.getElem?_cons_zero]; rfl
       case hQm74 => exact fun _ _ _ h => h
       case hwm74 => rfl
       case hym74 => (intro w9 hSw; obtain ⟨c0, c1, c2, c3, c4⟩ := (gr.ext hSw).cells; go_simp; (try with_reducible rfl))
       case restm74 =>
       try simp only [Act.put, List.setIfInBounds_toArray, List.set_cons_zero, List.set_cons_succ]
       refine wpAnyH_take (i := 16) (oi := ?oim75) (v := ?vm75) ?him75 (by kernel_rfl) (by kernel_rfl) (by kernel_rfl) ?hQm75 (Or.inl ⟨?hwm75, ?hym75⟩) hHeld ?restm75
       case him75 => simp only [List.getElem?_toArray, List.getElem?_cons_succ, List.getElem?_cons_zero]; rfl
       case hQm75 => exact fun _ _ _ h => h
       case hwm75 => rfl
       case hym75 => (intro w9 hSw; obtain ⟨c0, c1, c2, c3, c4⟩ := (gr.ext hSw).cells; go_simp; (try with_reducible rfl))
       case restm75 =>
       try simp only [Act.put, List.setIfInBounds_toArray, List.set_cons_zero, List.set_cons_succ]
       refine wpAnyH_take (i := 17) (oi := ?oim76) (v := ?vm76) ?him76 (by kernel_rfl) (by kernel_rfl) (by kernel_rfl) ?hQm76 (Or.inl ⟨?hwm76, ?hym76⟩) hHeld ?restm76
       case him76 => simp only [List.getElem?_toArray, List.getElem?_cons_succ, List.getElem?_cons_zero]; rfl
       case hQm76 => exact fun _ _ _ h => h
       case hwm76 => rfl
       case hym76 => (intro w9 hSw; obtain ⟨c0, c1, c2, c3, c4⟩ := (gr.ext hSw).cells; go_simp; (try with_reducible rfl))
       case restm76 =>
       try simp only [Act.put, List.setIfInBounds_toArray, List.set_cons_zero, List.set_cons_succ]
       refine wpAnyH_take (i := 18) (oi := ?oim77) (v := ?vm77) ?him77 (by kernel_rfl) (by kernel_rfl) (by kernel_rfl) ?hQm77 (Or.inl ⟨?hwm77, ?hym77⟩) hHeld ?restm77
       case him77 => simp only [List.getElem?_toArray, List.getElem?_cons_succ, List.getElem?_cons_zero]; rfl
       case hQm77 => exact fun _ _ _ h => h
       case hwm77 => rfl
       case hym77 => (intro w9 hSw; obtain ⟨c0, c1, c2, c3, c4⟩ := (gr.ext hSw).cells; go_simp; (try with_reducible rfl))
       case restm77 =>
       try simp only [Act.put, List.setIfInBounds_toArray, List.set_cons_zero, List.set_cons_succ]
       refine wpAnyH_take (i := 19) (oi := ?oim78) (v := ?vm78) ?him78 (by kernel_rfl) (by kernel_rfl) (by kernel_rfl) ?hQm78 (Or.inl ⟨?hwm78, ?hym78⟩) hHeld ?restm78
       case him78 => simp only [List.getElem?_toArray, List.getElem?_cons_succ, List.getElem?_cons_zero]; rfl
       case hQm78 => exact fun _ _ _ h => h
       case hwm78 => rfl
       case hym78 => (intro w9 hSw; replace q0 := (Ext.cell hSw hbr).trans q0; replace q1 := (Ext.cell hSw hbr).trans q1; replace q2 := (Ext.cell hSw hbr).trans q2; replace q3 := (Ext.cell hSw hbr).trans q3; replace q4 := (Ext.cell hSw hbr).trans q4; replace q5 := (Ext.cell hSw hbr).trans q5; replace q6 := (Ext.cell hSw hbr).trans q6; replace q7 := (Ext.cell hSw hbr).trans q7; replace q8 := (Ext.cell hSw hbr).trans q8; go_simp; (try with_reducible rfl))
       case restm78 =>
       try simp only [Act.put, List.setIfInBounds_toArray, List.set_cons_zero, List.set_cons_succ]
       refine wpAnyH_take (i := 20) (oi := ?oim79) (v := ?vm79) ?him79 (by kernel_rfl) (by kernel_rfl) (by kernel_rfl) ?hQm79 (Or.inl ⟨?hwm79, ?hym79⟩) hHeld ?restm79
       case him79 => simp only [List.getElem?_toArray, List.getElem?_cons_succ, List.getElem?_cons_zero]; rfl
       case hQm79 => exact fun _ _ _ h => h
       case hwm79 => rfl
       case hym79 => (intro w9 hSw; obtain ⟨c0, c1, c2, c3, c4⟩ := (gr.ext hSw).cells; go_simp; (try with_reducible rfl))
       case restm79 =>
       try simp only [Act.put, List.setIfInBounds_toArray, List.set_cons_zero, List.set_cons_succ]
       refine wpAnyH_take (i := 21) (oi := ?oim80) (v := ?vm80) ?him80 (by kernel_rfl) (by kernel_rfl) (by kernel_rfl) ?hQm80 (Or.inl ⟨?hwm80, ?hym80⟩) hHeld ?restm80
       case him80 => simp only [List.getElem?_toArray, List.getElem?_cons_succ, List.getElem?_cons_zero]; rfl
       case hQm80 => exact fun _ _ _ h => h
       case hwm80 => rfl
       case hym80 => (intro w9 hSw; obtain ⟨c0, c1, c2, c3, c4⟩ := (gr.ext hSw).cells; go_simp; (try with_reducible rfl))
       case restm80 =>
       try simp only [Act.put, List.setIfInBounds_toArray, List.set_cons_zero, List.set_cons_succ]
       refine wpAnyH_take (i := 22) (oi := ?oim81) (v := ?vm81) ?him81 (by kernel_rfl) (by kernel_rfl) (by kernel_rfl) ?hQm81 (Or.inl ⟨?hwm81, ?hym81⟩) hHeld ?restm81
       case him81 => simp only [List.getElem?_toArray, List.getElem?_cons_succ, List.getElem?_cons_zero]; rfl
       case hQm81 => exact fun _ _ _ h => h
       case hwm81 => rfl
       case hym81 => (intro w9 hSw; obtain ⟨c0, c1, c2, c3, c4⟩ := (gr.ext hSw).cells; go_simp; (try with_reducible rfl))
       case restm81 =>
       try simp only [Act.put, List.setIfInBounds_toArray, List.set_cons_zero, List.set_cons_succ]
       refine wpAnyH_take (i := 23) (oi := ?oim82) (v := ?vm82) ?him82 (by kernel_rfl) (by kernel_rfl) (by kernel_rfl) ?hQm82 (Or.inl ⟨?hwm82, ?hym82⟩) hHeld ?restm82
       case him82 => simp only [List.getElem?_toArray, List.getElem?_cons_succ, List.getElem?_cons_zero]; rfl
       case hQm82 => exact fun _ _ _ h => h
       case hwm82 => rfl
       case hym82 => (intro w9 hSw; obtain ⟨c0, c1, c2, c3, c4⟩ := (gr.ext hSw).cells; go_simp; (try with_reducible rfl))
       case restm82 =>
       try simp only [Act.put, List.setIfInBounds_toArray, List.set_cons_zero, List.set_cons_succ]
       refine wpAnyH_take (i := 24) (oi := ?oim83) (v := ?vm83) ?him83 (by kernel_rfl) (by kernel_rfl) (by kernel_rfl) ?hQm83 (Or.inl ⟨?hwm83, ?hym83⟩) hHeld ?restm83
       case him83 => simp only [List.getElem?_toArray, List.getElem?_cons_succ, List.getElem?_cons_zero]; rfl
       case hQm83 => exact fun _ _ _ h => h
       case hwm83 => rfl
       case hym83 => (intro w9 hSw; replace p0 := (Ext.cell hSw hbr).trans p0; replace p1 := (Ext.cell hSw hbr).trans p1; replace p2 := (Ext.cell hSw hbr).trans p2; replace p3 := (Ext.cell hSw hbr).trans p3; replace p4 := (Ext.cell hSw hbr).trans p4; replace p5 := (Ext.cell hSw hbr).trans p5; replace p6 := (Ext.cell hSw hbr).trans p6; replace p7 := (Ext.cell hSw hbr).trans p7; replace p8 := (Ext.cell hSw hbr).trans p8; go_simp; (try with_reducible rfl))
       case restm83 =>
       try simp only [Act.put, List.setIfInBounds_toArray, List.set_cons_zero, List.set_cons_succ]
       refine wpAnyH_ready (rs := [25]) (by kernel_rfl) (by simp) (AllReadyH.cons (o := ?om84) ?im84 (fun K hK => ?_) AllReadyH.nil)
       case im84 => simp only [List.getElem?_toArray, List.getElem?_cons_succ, List.getElem?_cons_zero]; rfl
       rw [if_pos (by rfl)]
       go_simp
       go_at_call 34
       (with_reducible refine (CP _ hHeld).mono ?_)
       rintro e wz ⟨rfl, xz⟩
       refine hK.out _ _ (hHeld.trans xz) (fun hHeld => ?_)
       clear hK K
       try simp only [List.setIfInBounds_toArray, List.set_cons_zero, List.set_cons_succ]
       refine wpAnyH_take (i := 26) (oi := ?oim85) (v := ?vm85) ?him85 (by kernel_rfl) (by kernel_rfl) (by kernel_rfl) ?hQm85 (Or.inl ⟨?hwm85, ?hym85⟩) hHeld ?restm85
       case him85 => simp only [List.getElem?_toArray, List.getElem?_cons_succ, List.getElem?_cons_zero]; rfl
       case hQm85 => exact fun _ _ _ h => h
       case hwm85 => rfl
       case hym85 => (intro w9 hSw; skip; go_simp; (try with_reducible rfl))
       case restm85 =>
       try simp only [Act.put, List.setIfInBounds_toArray, List.set_cons_zero, List.set_cons_succ]
       refine wpAnyH_take (i := 27) (oi := ?oim86) (v := ?vm86) ?him86 (by kernel_rfl) (by kernel_rfl) (by kernel_rfl) ?hQm86 (Or.inl ⟨?hwm86, ?hym86⟩) hHeld ?restm86
       case him86 => simp only [List.getElem?_toArray, List.getElem?_cons_succ, List.getElem?_cons_zero]; rfl
       case hQm86 => exact fun _ _ _ h => h
       case hwm86 => rfl
       case hym86 => (intro w9 hSw; skip; go_simp; (try with_reducible rfl))
       case restm86 =>
       try simp only [Act.put, List.setIfInBounds_toArray, List.set_cons_zero, List.set_cons_succ]
       refine wpAnyH_take (i := 28) (oi := ?oim87) (v := ?vm87) ?him87 (by kernel_rfl) (by kernel_rfl) (by kernel_rfl) ?hQm87 (Or.inl ⟨?hwm87, ?hym87⟩) hHeld ?restm87
       case him87 => simp only [List.getElem?_toArray, List.getElem?_cons_succ, List.getElem?_cons_zero]; rfl
       case hQm87 => exact fun _ _ _ h => h
       case hwm87 => rfl
       case hym87 => (intro w9 hSw; skip; go_simp; (try with_reducible rfl))
       case restm87 =>
       try simp only [Act.put, List.setIfInBounds_toArray, List.set_cons_zero, List.set_cons_succ]
       refine wpAnyH_done (by kernel_rfl) ?_ _
       go_wp2_with fail
       go_roundw
       case rel => exact ⟨j + 1 + 1, rfl, hlt, hd5, xr.trans hHeld⟩
       case measure => simp only [intOf]; omega
      ·have hd5 := Lib.hid (hd4.out (decide_eq_false h0))
       have i6 : cv ≥ 0 := by omega
       clear hd3 hd4
       go_wp2_with fail
       refine wp_region_held_drew (S := Ext wr) (by kernel_rfl) ((Ext.refl wr).drew) (fun hHeld => ?_)
       refine wpAnyH_take (i := 0) (oi := ?oim88) (v := ?vm88) ?him88 (by kernel_rfl) (by kernel_rfl) (by kernel_rfl) ?hQm88 (Or.inl ⟨?hwm88, ?hym88⟩) hHeld ?restm88
       case him88 => simp only [List.getElem?_toArray, List.getElem?_cons_zero]; rfl
       case hQm88 => exact fun _ _ _ h => h
       case hwm88 => rfl
       case hym88 => (intro w9 hSw; obtain ⟨c0, c1, c2, c3, c4⟩ := (gr.ext hSw).cells; go_simp; (try with_reducible rfl))
       case restm88 =>
       try simp only [Act.put, List.setIfInBounds_toArray, List.set_cons_zero, List.set_cons_succ]
       refine wpAnyH_take (i := 1) (oi := ?oim89) (v := ?vm89) ?him89 (by kernel_rfl) (by kernel_rfl) (by kernel_rfl) ?hQm89 (Or.inl ⟨?hwm89, ?hym89⟩) hHeld ?restm89
       case him89 => simp only [List.getElem?_toArray, List.getElem?_cons_succ, List.getElem?_cons_zero]; rfl
       case hQm89 => exact fun _ _ _ h => h
       case hwm89 => rfl
       case hym89 => (intro w9 hSw; obtain ⟨c0, c1, c2, c3, c4⟩ := (gr.ext hSw).cells; go_simp; (try with_reducible rfl))
       case restm89 =>
       try simp only [Act.put, List.setIfInBounds_toArray, List.set_cons_zero, List.set_cons_succ]
       refine wpAnyH_take (i := 2) (oi := ?oim90) (v := ?vm90) ?him90 (by kernel_rfl) (by kernel_rfl) (by kernel_rfl) ?hQm90 (Or.inl ⟨?hwm90, ?hym90⟩) hHeld ?restm90
       case him90 => simp only [List.getElem?_toArray, List.getElem?_cons_succ, List.getElem?_cons_zero]; rfl
       case hQm90 => exact fun _ _ _ h => h
       case hwm90 => rfl
       case hym90 => (intro w9 hSw; obtain ⟨c0, c1, c2, c3, c4⟩ := (gr.ext hSw).cells; go_simp; (try with_reducible rfl))
       case restm90 =>
       try simp only [Act.put, List.setIfInBounds_toArray, List.set_cons_zero, List.set_cons_succ]
       refine wpAnyH_take (i := 3) (oi := ?oim91) (v := ?vm91) ?him91 (by kernel_rfl) (by kernel_rfl) (by kernel_rfl) ?hQm91 (Or.inl ⟨?hwm91, ?hym91⟩) hHeld ?restm91
       case him91 => simp only [List.getElem?_toArray, List.getElem?_cons_succ, List.getElem?_cons_zero]; rfl
       case hQm91 => exact fun _ _ _ h => h
       case hwm91 => rfl
       case hym91 => (intro w9 hSw; obtain ⟨c0, c1, c2, c3, c4⟩ := (gr.ext hSw).cells; go_simp; (try with_reducible rfl))
       case restm91 =>
       try simp only [Act.put, List.setIfInBounds_toArray, List.set_cons_zero, List.set_cons_succ]
       refine wpAnyH_take (i := 4) (oi := ?oim92) (v := ?vm92) ?him92 (by kernel_rfl) (by kernel_rfl) (by kernel_rfl) ?hQm92 (Or.inl ⟨?hwm92, ?hym92⟩) hHeld ?restm92
       case him92 => simp only [List.getElem?_toArray, List.getElem?_cons_succ, List.getElem?_cons_zero]; rfl
       case hQm92 => exact fun _ _ _ h => h
       case hwm92 => rfl
       case hym92 => (intro w9 hSw; obtain ⟨c0, c1, c2, c3, c4⟩ := (gr.ext hSw).cells; go_simp; (try with_reducible rfl))
       case restm92 =>
       try simp only [Act.put, List.setIfInBounds_toArray, List.set_cons_zero, List.set_cons_succ]
       refine wpAnyH_take (i := 5) (oi := ?oim93) (v := ?vm93) ?him93 (by kernel_rfl) (by kernel_rfl) (by kernel_rfl) ?hQm93 (Or.inl ⟨?hwm93, ?hym93⟩) hHeld ?restm93
       case him93 => simp only [List.getElem?_toArray, List.getElem?_cons_succ, List.getElem?_cons_zero]; rfl
       case hQm93 => exact fun _ _ _ h => h
       case hwm93 => rfl
       case hym93 => (intro w9 hSw; obtain ⟨c0, c1, c2, c3, c4⟩ := (gr.ext hSw).cells; go_simp; (try with_reducible rfl))
       case restm93 =>
       try simp only [Act.put, List.setIfInBounds_toArray, List.set_cons_zero, List.set_cons_succ]
       refine wpAnyH_take (i := 6) (oi := ?oim94) (v := ?vm94) ?him94 (by kernel_rfl) (by kernel_rfl) (by kernel_rfl) ?hQm94 (Or.inl ⟨?hwm94, ?hym94⟩) hHeld ?restm94
       case him94 => simp only [List.getElem?_toArray, List.getElem?_cons_succ, List.getElem?_cons_zero]; rfl
       case hQm94 => exact fun _ _ _ h => h
       case hwm94 => rfl
       case hym94 => (intro w9 hSw; obtain ⟨c0, c1, c2, c3, c4⟩ := (gr.ext hSw).cells; go_simp; (try with_reducible rfl))
       case restm94 =>
       try simp only [Act.put, List.setIfInBounds_toArray, List.set_cons_zero, List.set_cons_succ]
       refine wpAnyH_take (i := 7) (oi := ?oim95) (v := ?vm95) ?him95 (by kernel_rfl) (by kernel_rfl) (by kernel_rfl) ?hQm95 (Or.inl ⟨?hwm95, ?hym95⟩) hHeld ?restm95
       case him95 => simp only [List.getElem?_toArray, List.getElem?_cons_succ, List.getElem?_cons_zero]; rfl
       case hQm95 => exact fun _ _ _ h => h
       case hwm95 => rfl
       case hym95 => (intro w9 hSw; replace p0 := (Ext.cell hSw hbr).trans p0; replace p1 := (Ext.cell hSw hbr).trans p1; replace p2 := (Ext.cell hSw hbr).trans p2; replace p3 := (Ext.cell hSw hbr).trans p3; replace p4 := (Ext.cell hSw hbr).trans p4; replace p5 := (Ext.cell hSw hbr).trans p5; replace p6 := (Ext.cell hSw hbr).trans p6; replace p7 := (Ext.cell hSw hbr).trans p7; replace p8 := (Ext.cell hSw hbr).trans p8; go_simp; (try with_reducible rfl))
       case restm95 =>
       try simp only [Act.put, List.setIfInBounds_toArray, List.set_cons_zero, List.set_cons_succ]
       refine wpAnyH_ready (rs := [8]) (by kernel_rfl) (by simp) (AllReadyH.cons (o := ?om96) ?im96 (fun K hK => ?_) AllReadyH.nil)
       case im96 => simp only [List.getElem?_toArray, List.getElem?_cons_succ, List.getElem?_cons_zero]; rfl
       rw [if_pos (by rfl)]
       go_simp
       go_at_call 68
       (with_reducible refine (RP _ hHeld).mono ?_)
       rintro e wz ⟨rfl, xz⟩
       refine hK.out _ _ (hHeld.trans xz) (fun hHeld => ?_)
       clear hK K
       try simp only [List.setIfInBounds_toArray, List.set_cons_zero, List.set_cons_succ]
       refine wpAnyH_take (i := 9) (oi := ?oim97) (v := ?vm97) ?him97 (by kernel_rfl) (by kernel_rfl) (by kernel_rfl) ?hQm97 (Or.inl ⟨?hwm97, ?hym97⟩) hHeld ?restm97
       case him97 => simp only [List.getElem?_toArray, List.getElem?_cons_succ, List.getElem?_cons_zero]; rfl
       case hQm97 => exact fun _ _ _ h => h
       case hwm97 => rfl
       case hym97 => (intro w9 hSw; skip; go_simp; (try with_reducible rfl))
       case restm97 =>
       try simp only [Act.put, List.setIfInBounds_toArray, List.set_cons_zero, List.set_cons_succ]
       refine wpAnyH_take (i := 10) (oi := ?oim98) (v := ?vm98) ?him98 (by kernel_rfl) (by kernel_rfl) (by kernel_rfl) ?hQm98 (Or.inl ⟨?hwm98, ?hym98⟩) hHeld ?restm98
       case him98 => simp only [List.getElem?_toArray, List.getElem?_cons_succ, List.getElem?_cons_zero]; rfl
       case hQm98 => exact fun _ _ _ h => h
       case hwm98 => rfl
       case hym98 => (intro w9 hSw; skip; go_simp; (try with_reducible rfl))
       case restm98 =>
       try simp only [Act.put, List.setIfInBounds_toArray, List.set_cons_zero, List.set_cons_succ]
       refine wpAnyH_take (i := 11) (oi := ?oim99) (v := ?vm99) ?him99 (by kernel_rfl) (by kernel_rfl) (by kernel_rfl) ?hQm99 (Or.inl ⟨?hwm99, ?hym99⟩) hHeld ?restm99
       case him99 => simp only [List.getElem?_toArray, List.getElem?_cons_succ, List.getElem?_cons_zero]; rfl
       case hQm99 => exact fun _ _ _ h => h
       case hwm99 => rfl
       case hym99 => (intro w9 hSw; obtain ⟨c0, c1, c2, c3, c4⟩ := (gr.ext hSw).cells; go_simp; (try with_reducible rfl))
       case restm99 =>
       try simp only [Act.put, List.setIfInBounds_toArray, List.set_cons_zero, List.set_cons_succ]
       refine wpAnyH_take (i := 12) (oi := ?oim100) (v := ?vm100) ?him100 (by kernel_rfl) (by kernel_rfl) (by kernel_rfl) ?hQm100 (Or.inl ⟨?hwm100, ?hym100⟩) hHeld ?restm100
       case him100 => simp only [List.getElem?_toArray, List.getElem?_cons_succ, List.getElem?_cons_zero]; rfl
       case hQm100 => exact fun _ _ _ h => h
       case hwm100 => rfl
       case hym100 => (intro w9 hSw; obtain ⟨c0, c1, c2, c3, c4⟩ := (gr.ext hSw).cells; go_simp; (try with_reducible rfl))
       case restm100 =>
       try simp only [Act.put, List.setIfInBounds_toArray, List.set_cons_zero, List.set_cons_succ]
       refine wpAnyH_take (i := 13) (oi := ?oim101) (v := ?vm101) ?him101 (by kernel_rfl) (by kernel_rfl) (by kernel_rfl) ?hQm101 (Or.inl ⟨?hwm101, ?hym101⟩) hHeld ?restm101
       case him101 => simp only [List.getElem?_toArray, List.getElem?_cons_succ, List.getElem?_cons_zero]; rfl
       case hQm101 => exact fun _ _ _ h => h
       case hwm101 => rfl
       case hym101 => (intro w9 hSw; obtain ⟨c0, c1, c2, c3, c4⟩ := (gr.ext hSw).cells; go_simp; (try with_reducible rfl))
       case restm101 =>
       try simp only [Act.put, List.setIfInBounds_toArray, List.set_cons_zero, List.set_cons_succ]
       refine wpAnyH_take (i := 14) (oi := ?oim102) (v := ?vm102) ?him102 (by kernel_rfl) (by kernel_rfl) (by kernel_rfl) ?hQm102 (Or.inl ⟨?hwm102, ?hym102⟩) hHeld ?restm102
       case him102 => simp only [List.getElem?_toArray, List.getElem?_cons_succ, List.getElem?_cons_zero]; rfl
       case hQm102 => exact fun _ _ _ h => h
       case hwm102 => rfl
       case hym102 => (intro w9 hSw; obtain ⟨c0, c1, c2, c3, c4⟩ := (gr.ext hSw).cells; go_simp; (try with_reducible rfl))
       case restm102 =>
       try simp only [Act.put, List.setIfInBounds_toArray, List.set_cons_zero, List.set_cons_succ]
       refine wpAnyH_take (i := 15) (oi := ?oim103) (v := ?vm103) ?him103 (by kernel_rfl) (by kernel_rfl) (by kernel_rfl) ?hQm103 (Or.inl ⟨?hwm103, ?hym103⟩) hHeld ?restm103
       case him103 => simp only [List.getElem?_toArray, List.getElem?_cons_succ, List.getElem?_cons_zero]; rfl
       case hQm103 => exact fun _ _ _ h => h
       case hwm103 => rfl
       case hym103 => (intro w9 hSw; obtain ⟨c0, c1, c2, c3, c4⟩ := (gr.ext hSw).cells; go_simp; (try with_reducible rfl))
       case restm103 =>
       try simp only [Act.put, List.setIfInBounds_toArray, List.set_cons_zero, List.set_cons_succ]
       refine wpAnyH_take (i := 16) (oi := ?oim104) (v := ?vm104) ?him104 (by kernel_rfl) (by kernel_rfl) (by kernel_rfl) ?hQm104 (Or.inl ⟨?hwm104, ?hym104⟩) hHeld ?restm104
       case him104 => simp only [List.getElem?_toArray, List.getElem?_cons_succ, List.getElem?_cons_zero]; rfl
       case hQm104 => exact fun _ _ _ h => h
       case hwm104 => rfl
       case hym104 => (intro w9 hSw; obtain ⟨c0, c1, c2, c3, c4⟩ := (gr.ext hSw).cells; go_simp; (try with_reducible rfl))
       case restm104 =>
       try simp only [Act.put, List.setIfInBounds_toArray, List.set_cons_zero, List.set_cons_succ]
       refine wpAnyH_take (i := 17) (oi := ?oim105) (v := ?vm105) ?him105 (by kernel_rfl) (by kernel_rfl) (by kernel_rfl) ?hQm105 (Or.inl ⟨?hwm105, ?hym105⟩) hHeld ?restm105
       case him105 => simp only [List.getElem?_toArray, List.getElem?_cons_succ, List.getElem?_cons_zero]; rfl
       case hQm105 => exact fun _ _ _ h => h
       case hwm105 => rfl
       case hym105 => (intro w9 hSw; obtain ⟨c0, c1, c2, c3, c4⟩ := (gr.ext hSw).cells; go_simp; (try with_reducible rfl))
       case restm105 =>
       try simp only [Act.put, List.setIfInBounds_toArray, List.set_cons_zero, List.set_cons_succ]
       refine wpAnyH_take (i := 18) (oi := ?oim106) (v := ?vm106) ?him106 (by kernel_rfl) (by kernel_rfl) (by kernel_rfl) ?hQm106 (Or.inl ⟨?hwm106, ?hym106⟩) hHeld ?restm106
       case him106 => simp only [List.getElem?_toArray, List.getElem?_cons_succ, List.getElem?_cons_zero]; rfl
       case hQm106 => exact fun _ _ _ h => h
       case hwm106 => rfl
       case hym106 => (intro w9 hSw; obtain ⟨c0, c1, c2, c3, c4⟩ := (gr.ext hSw).cells; go_simp; (try with_reducible rfl))
       case restm106 =>
       try simp only [Act.put, List.setIfInBounds_toArray, List.set_cons_zero, List.set_cons_succ]
       refine wpAnyH_take (i := 19) (oi := ?oim107) (v := ?vm107) ?him107 (by kernel_rfl) (by kernel_rfl) (by kernel_rfl) ?hQm107 (Or.inl ⟨?hwm107, ?hym107⟩) hHeld ?restm107
       case him107 => simp only [List.getElem?_toArray, List.getElem?_cons_succ, List.getElem?_cons_zero]; rfl
       case hQm107 => exact fun _ _ _ h => h
       case hwm107 => rfl
       case hym107 => (intro w9 hSw; replace q0 := (Ext.cell hSw hbr).trans q0; replace q1 := (Ext.cell hSw hbr).trans q1; replace q2 := (Ext.cell hSw hbr).trans q2; replace q3 := (Ext.cell hSw hbr).trans q3; replace q4 := (Ext.cell hSw hbr).trans q4; replace q5 := (Ext.cell hSw hbr).trans q5; replace q6 := (Ext.cell hSw hbr).trans q6; replace q7 := (Ext.cell hSw hbr).trans q7; replace q8 := (Ext.cell hSw hbr).trans q8; go_simp; (try with_reducible rfl))
       case restm107 =>
       try simp only [Act.put, List.setIfInBounds_toArray, List.set_cons_zero, List.set_cons_succ]
       refine wpAnyH_take (i := 20) (oi := ?oim108) (v := ?vm108) ?him108 (by kernel_rfl) (by kernel_rfl) (by kernel_rfl) ?hQm108 (Or.inl ⟨?hwm108, ?hym108⟩) hHeld ?restm108
       case him108 => simp only [List.getElem?_toArray, List.getElem?_cons_succ, List.getElem?_cons_zero]; rfl
       case hQm108 => exact fun _ _ _ h => h
       case hwm108 => rfl
       case hym108 => (intro w9 hSw; obtain ⟨c0, c1, c2, c3, c4⟩ := (gr.ext hSw).cells; go_simp; (try with_reducible rfl))
       case restm108 =>
       try simp only [Act.put, List.setIfInBounds_toArray, List.set_cons_zero, List.set_cons_succ]
       refine wpAnyH_take (i := 21) (oi := ?oim109) (v := ?vm109) ?him109 (by kernel_rfl) (by kernel_rfl) (by kernel_rfl) ?hQm109 (Or.inl ⟨?hwm109, ?hym109⟩) hHeld ?restm109
       case him109 => simp only [List.getElem?_toArray, List.getElem?_cons_succ, List.getElem?_cons_zero]; rfl
       case hQm109 => exact fun _ _ _ h => h
       case hwm109 => rfl
       case hym109 => (intro w9 hSw; obtain ⟨c0, c1, c2, c3, c4⟩ := (gr.ext hSw).cells; go_simp; (try with_reducible rfl))
       case restm109 =>
       try simp only [Act.put, List.setIfInBounds_toArray, List.set_cons_zero, List.set_cons_succ]
       refine wpAnyH_take (i := 22) (oi := ?oim110) (v := ?vm110) ?him110 (by kernel_rfl) (by kernel_rfl) (by kernel_rfl) ?hQm110 (Or.inl ⟨?hwm110, ?hym110⟩) hHeld ?restm110
       case him110 => simp only [List.getElem?_toArray, List.getElem?_cons_succ, List.getElem?_cons_zero]; rfl
       case hQm110 => exact fun _ _ _ h => h
       case hwm110 => rfl
       case hym110 => (intro w9 hSw; obtain ⟨c0, c1, c2, c3, c4⟩ := (gr.ext hSw).cells; go_simp; (try with_reducible rfl))
       case restm110 =>
       try simp only [Act.put, List.setIfInBounds_toArray, List.set_cons_zero, List.set_cons_succ]
       refine wpAnyH_take (i := 23) (oi := ?oim111) (v := ?vm111) ?him111 (by kernel_rfl) (by kernel_rfl) (by kernel_rfl) ?hQm111 (Or.inl ⟨?hwm111, ?hym111⟩) hHeld ?restm111
       case him111 => simp only [List.getElem?_toArray, List.getElem?_cons_succ, List.getElem?_cons_zero]; rfl
       case hQm111 => exact fun _ _ _ h => h
       case hwm111 => rfl
       case hym111 => (intro w9 hSw; obtain ⟨c0, c1, c2, c3, c4⟩ := (gr.ext hSw).cells; go_simp; (try with_reducible rfl))
       case restm111 =>
       try simp only [Act.put, List.setIfInBounds_toArray, List.set_cons_zero, List.set_cons_succ]
       refine wpAnyH_take (i := 24) (oi := ?oim112) (v := ?vm112) ?him112 (by kernel_rfl) (by kernel_rfl) (by kernel_rfl) ?hQm112 (Or.inl ⟨?hwm112, ?hym112⟩) hHeld ?restm112
       case him112 => simp only [List.getElem?_toArray, List.getElem?_cons_succ, List.getElem?_cons_zero]; rfl
       case hQm112 => exact fun _ _ _ h => h
       case hwm112 => rfl
       case hym112 => (intro w9 hSw; replace p0 := (Ext.cell hSw hbr).trans p0; replace p1 := (Ext.cell hSw hbr).trans p1; replace p2 := (Ext.cell hSw hbr).trans p2; replace p3 := (Ext.cell hSw hbr).trans p3; replace p4 := (Ext.cell hSw hbr).trans p4; replace p5 := (Ext.cell hSw hbr).trans p5; replace p6 := (Ext.cell hSw hbr).trans p6; replace p7 := (Ext.cell hSw hbr).trans p7; replace p8 := (Ext.cell hSw hbr).trans p8; go_simp; (try with_reducible rfl))
       case restm112 =>
       try simp only [Act.put, List.setIfInBounds_toArray, List.set_cons_zero, List.set_cons_succ]
       refine wpAnyH_ready (rs := [25]) (by kernel_rfl) (by simp) (AllReadyH.cons (o := ?om113) ?im113 (fun K hK => ?_) AllReadyH.nil)
       case im113 => simp only [List.getElem?_toArray, List.getElem?_cons_succ, List.getElem?_cons_zero]; rfl
       rw [if_pos (by rfl)]
       go_simp
       go_at_call 34
       (with_reducible refine (CP _ hHeld).mono ?_)
       rintro e wz ⟨rfl, xz⟩
       refine hK.out _ _ (hHeld.trans xz) (fun hHeld => ?_)
       clear hK K
       try simp only [List.setIfInBounds_toArray, List.set_cons_zero, List.set_cons_succ]
       refine wpAnyH_take (i := 26) (oi := ?oim114) (v := ?vm114) ?him114 (by kernel_rfl) (by kernel_rfl) (by kernel_rfl) ?hQm114 (Or.inl ⟨?hwm114, ?hym114⟩) hHeld ?restm114
       case him114 => simp only [List.getElem?_toArray, List.getElem?_cons_succ, List.getElem?_cons_zero]; rfl
       case hQm114 => exact fun _ _ _ h => h
       case hwm114 => rfl
       case hym114 => (intro w9 hSw; skip; go_simp; (try with_reducible rfl))
       case restm114 =>
       try simp only [Act.put, List.setIfInBounds_toArray, List.set_cons_zero, List.set_cons_succ]
       refine wpAnyH_take (i := 27) (oi := ?oim115) (v := ?vm115) ?him115 (by kernel_rfl) (by kernel_rfl) (by kernel_rfl) ?hQm115 (Or.inl ⟨?hwm115, ?hym115⟩) hHeld ?restm115
       case him115 => simp only [List.getElem?_toArray, List.getElem?_cons_succ, List.getElem?_cons_zero]; rfl
       case hQm115 => exact fun _ _ _ h => h
       case hwm115 => rfl
       case hym115 => (intro w9 hSw; skip; go_simp; (try with_reducible rfl))
       case restm115 =>
       try simp only [Act.put, List.setIfInBounds_toArray, List.set_cons_zero, List.set_cons_succ]
       refine wpAnyH_take (i := 28) (oi := ?oim116) (v := ?vm116) ?him116 (by kernel_rfl) (by kernel_rfl) (by kernel_rfl) ?hQm116 (Or.inl ⟨?hwm116, ?hym116⟩) hHeld ?restm116
       case him116 => simp only [List.getElem?_toArray, List.getElem?_cons_succ, List.getElem?_cons_zero]; rfl
       case hQm116 => exact fun _ _ _ h => h
       case hwm116 => rfl
       case hym116 => (intro w9 hSw; skip; go_simp; (try with_reducible rfl))
       case restm116 =>
       try simp only [Act.put, List.setIfInBounds_toArray, List.set_cons_zero, List.set_cons_succ]
       refine wpAnyH_done (by kernel_rfl) ?_ _
       go_wp2_with fail
       go_ret
       exact ⟨retB hd5.out, (z1.trans xr).trans hHeld⟩
  ·have hd := hg.out
   rw [List.drop_eq_nil_of_le (by simp; omega)] at hd
   have hd2 : Hid (true = R) := Lib.hid (by
    rw [← hd]
    cases ((l.map PtD.y).take k).getLast?.map (fun y => y.1) <;> rfl)
   have i0 : ¬ (k : Int) < (l.length : Int) := by omega
   obtain ⟨c0, c1, c2, c3, c4⟩ := gr.cells
   clear hd hg hp
   go_wp2_with fail
   go_ret
   exact ⟨retB hd2.out, z1.trans xr⟩
end Go.Proofs.YtjjnmefihdjglaaGreat
