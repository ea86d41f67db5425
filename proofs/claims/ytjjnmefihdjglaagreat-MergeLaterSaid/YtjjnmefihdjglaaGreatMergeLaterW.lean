import Derived.Test.YtjjnmefihdjglaaGreatMgS
import Derived.Test.YtjjnmefihdjglaaGreatMgT
import Derived.Deep.DeepCutAuto
set_option linter.all false
namespace Go.Proofs.YtjjnmefihdjglaaGreat
open Go.RowKit
theorem PtIn.all {b : Nat} {v : Value} {r : Int} {f : Bool} {M S m s : Int} {t : Bool} {T : Int} {w : World} (h : PtIn b v r f M S m s t T w) (v' : Value) (r' : Int) (f' : Bool) (M' S' m' s' : Int) (t' : Bool) (T' : Int) :
  PtIn b v' r' f' M' S' m' s' t' T' (((((((((w.setCell ⟨b, 0, none⟩ v').setCell ⟨b, 1, none⟩ (.int .i64 r')).setCell ⟨b, 2, none⟩ (.bool f')).setCell ⟨b, 3, none⟩ (.int .i64 M')).setCell ⟨b, 4, none⟩ (.int .i64 S')).setCell ⟨b, 5, none⟩ (.int .i64 m')).setCell ⟨b, 6, none⟩ (.int .i64 s')).setCell ⟨b, 7, none⟩ (.bool t')).setCell ⟨b, 8, none⟩ (.int .i64 T')) := by
 have e := heap_setCells b [v', .int .i64 r', .bool f', .int .i64 M', .int .i64 S', .int .i64 m', .int .i64 s', .bool t', .int .i64 T'] 0 w _ _ _ h
 rw [show setL #[v, .int .i64 r, .bool f, .int .i64 M, .int .i64 S, .int .i64 m, .int .i64 s, .bool t, .int .i64 T] 0 [v', .int .i64 r', .bool f', .int .i64 M', .int .i64 S', .int .i64 m', .int .i64 s', .bool t', .int .i64 T'] = #[v', .int .i64 r', .bool f', .int .i64 M', .int .i64 S', .int .i64 m', .int .i64 s', .bool t', .int .i64 T'] from by simp [setL]] at e
 simp only [World.setCells] at e
 exact e
theorem yes_of {o : Option PtY} {q : PtD} {ok : Bool} (h : o.isSome = true) (k : (ok = true → o = some q.y) ∧ (ok = false → o = none)) : ok = true := by
 cases ok
 ·rw [k.2 rfl] at h; cases h
 ·rfl
set_option maxHeartbeats 32000000 in
set_option maxRecDepth 100000 in
theorem MergeLater_main (A : Option Addr) (c : Nat) (l : List BatD) (w : World) (hlm : (l.length : Int) ≤ 9223372036854775807) (hA : BatsA A l w) (hG : ∀ x ∈ l, BatGot w x.tn x.fa x.fc x.fs) :
  Calls Tryz.prog 3 #[.slice A l.length c] w fun e w' => e = .returned (.bool true) ∧ Ext w w' := by
 go_enter Tryz.func3, Tryz.ntmps3
 go_wp2_with fail
 (with_reducible refine (known11_any _).mono ?_)
 rintro e w1 ⟨rfl, z1⟩
 replace hA := hA.ext z1
 have hlm2 : ∀ x ∈ l, (x.fs.length : Int) ≤ 9223372036854775807 := fun x hx => (hG x hx).len
 have hfl : ∀ x ∈ l, ∀ f ∈ x.fs, (f.ps.length : Int) ≤ 9223372036854775807 := fun x hx f hf => ((hG x hx).got f hf).ext0
 clear hG
 by_cases h4 : 4 < l.length
 ·have h4' : (4 : Int) < (l.length : Int) := by omega
  go_wp2_with fail
  go_ret
  exact ⟨rfl, z1⟩
 have h4' : ¬ (4 : Int) < (l.length : Int) := by omega
 go_wp2_with fail
 go_loopw [3] (fun i wr => ∃ k : Nat, i = .int .i64 k ∧ k ≤ l.length ∧ Hid (∀ j (h : j < l.length), j < k → Low l[j].tn l[j].fs) ∧ Ext w1 wr) (fun i _ => l.length - (intOf i).toNat)
 case atStart => exact ⟨0, rfl, Nat.zero_le _, Lib.hid (fun _ _ h => absurd h (Nat.not_lt_zero _)), Ext.refl _⟩
 case round =>
  obtain ⟨k, rfl, hk, hQ, xr⟩ := hrel
  by_cases hlt : k < l.length
  ·obtain ⟨b, o, rfl, hb, hB⟩ := hA.1 (by omega)
   have hf := (hA.2 _ (List.getElem_mem hlt)).ext xr
   have y1 := hlm2 _ (List.getElem_mem hlt)
   have y2 := hfl _ (List.getElem_mem hlt)
   obtain ⟨v0, v1⟩ := hB k hlt
   obtain ⟨x, hx⟩ : ∃ x, l[k] = x := ⟨_, rfl⟩
   rw [hx] at hf y1 y2 v0 v1
   replace v0 := (Ext.cell xr hb).trans v0
   replace v1 := (Ext.cell xr hb).trans v1
   have i1 : (k : Int) < (l.length : Int) := by omega
   have WI := wide_any x.tn x.fa x.fc x.fs wr y1 hf y2
   clear hB hf y1 y2 hlm2 hfl hA
   go_wp2_with fail
   (with_reducible refine WI.mono ?_)
   rintro e w2 ⟨⟨sb, rfl, hsb⟩, xm⟩
   cases sb
   rotate_left
   ·clear hsb hQ hx
    go_wp2_with fail
    go_ret
    exact ⟨rfl, (z1.trans xr).trans xm⟩
   have hQ2 : Hid (∀ j (h : j < l.length), j < k + 1 → Low l[j].tn l[j].fs) := Lib.hid (fun j h hj => by
    by_cases e : j = k
    ·subst e
     rw [hx]
     obtain ⟨h40, h100, hnar⟩ := hsb rfl
     exact ⟨by omega, by omega, fun f hf => (hnar f hf).sm⟩
    ·exact hQ.out j h (by omega))
   clear hsb hQ hx WI
   go_wp2_with fail
   go_roundw
   case rel => exact ⟨k + 1, rfl, hlt, hQ2, xr.trans xm⟩
   case measure => simp only [intOf]; omega
  ·have i1 : ¬ (k : Int) < (l.length : Int) := by omega
   have low : ∀ x ∈ l, Low x.tn x.fs := fun x hx => by
    obtain ⟨j, hj, e⟩ := List.getElem_of_mem hx
    have := hQ.out j hj (by omega)
    rw [e] at this; exact this
   replace hA := hA.ext xr
   replace z1 := z1.trans xr
   clear hQ xr hlm2 hfl hlt hk
   have ME := merge_any A c l wr hA (by omega) (fun x hx => (low x hx).big)
   go_wp2_with fail
   (with_reducible refine ME.mono ?_)
   rintro e w2 ⟨hm, xm⟩
   obtain ⟨r, tn, aM, cM, M, eM, rfl, hM, lowM⟩ := hm.mis
   clear ME hm
   have xa := (Ext.refl w2).alloc (.cells #[.string tn, .slice aM M.length cM] 27)
   have gM : BatIn w2.heap.size tn (.slice aM M.length cM) (w2.alloc (.cells #[.string tn, .slice aM M.length cM] 27)) := heap_last _ _
   replace xm := xm.trans xa
   replace hA := hA.ext xm
   replace hM := hM.ext xa
   replace z1 := z1.trans xm
   obtain ⟨V1, hV1⟩ : ∃ V, w2.alloc (.cells #[.string tn, .slice aM M.length cM] 27) = V := ⟨_, rfl⟩
   rw [hV1] at gM hA hM z1
   obtain ⟨MB, hMB⟩ : ∃ MB, w2.heap.size = MB := ⟨_, rfl⟩
   rw [hMB] at gM
   clear xa xm
   by_cases hr : r = 0
   rotate_left
   ·have hz := mergeY_zero (l.map BatD.y)
    rw [eM] at hz
    have hz2 := hz.resolve_left hr
    injection hz2 with e1 e2
    obtain rfl : M = [] := by cases M with
     | nil => rfl
     | cons x l => cases e2
    have e1' : tn = ⟨#[]⟩ := e1
    subst e1'
    have hrb : (r != 0) = true := by simpa using hr
    obtain ⟨m0, m1⟩ := gM.cells
    rw [← hV1] at z1
    clear hz e2 eM hA hM low
    go_wp2_with fail
    go_ret
    exact ⟨rfl, z1⟩
   subst hr
   have LT := later_of eM
   have F1 := Lib.hid LT.1
   have F2 := Lib.hid LT.2
   clear LT eM
   have hMl : M.length ≤ 1000 := lowM.1
   have hMs : ∀ f ∈ M, f.y.Sm := lowM.2.2
   have hPN : ptsN (M.map FamD.y) ≤ 1000 * M.length := by
    have := ptsN_le (M.map FamD.y) (fun f hf => by obtain ⟨g, hg, rfl⟩ := List.mem_map.1 hf; exact hMs g hg)
    rwa [List.length_map] at this
   obtain ⟨m0, m1⟩ := gM.cells
   go_wp2_with fail
   try rw [hMB]
   try rw [hV1]
   clear hV1 hMB m0 m1
   go_loopw [6, 7] (fun s i wr => ∃ k : Nat, i = .int .i64 k ∧ k ≤ M.length ∧ s = .int .i64 (ptsN ((M.map FamD.y).take k) : Nat) ∧ Ext V1 wr) (fun _ i _ => M.length - (intOf i).toNat)
   case atStart => exact ⟨0, rfl, Nat.zero_le _, rfl, Ext.refl _⟩
   case round =>
    obtain ⟨k, rfl, hk, rfl, xr⟩ := hrel
    obtain ⟨m0, m1⟩ := (gM.ext xr).cells
    by_cases hlt : k < M.length
    ·obtain ⟨mb, mo, rfl, hmb0, hL⟩ := hM.1 (by omega)
     have ok1 := hM.2 _ (List.getElem_mem hlt)
     have hfm := List.getElem_mem hlt
     have hN : Hid (ptsN ((M.map FamD.y).take (k + 1)) = ptsN ((M.map FamD.y).take k) + M[k].ps.length) := Lib.hid (by
      rw [List.take_add_one, List.getElem?_map, List.getElem?_eq_getElem hlt, Option.map_some, Option.toList_some, ptsN_append]
      simp [ptsN, FamD.y_len])
     have hNb : ptsN ((M.map FamD.y).take k) ≤ 1000 * k := by
      have := ptsN_le ((M.map FamD.y).take k) (fun f hf => by obtain ⟨g, hg, rfl⟩ := List.mem_map.1 (List.mem_of_mem_take hf); exact hMs g hg)
      rw [List.length_take, List.length_map] at this
      omega
     have sm := (hMs _ hfm).pl
     obtain ⟨p0, p1, p2, p3, p4⟩ := hL k hlt
     generalize M[k] = f at *
     obtain ⟨N0, hN0⟩ : ∃ n, ptsN ((M.map FamD.y).take k) = n := ⟨_, rfl⟩
     rw [hN0] at hN hNb ⊢
     have i1 : (k : Int) < (M.length : Int) := by omega
     clear hL p1 p2 p3 hN0 hMs hM
     go_wp2_with fail
     clear m0 m1
     go_loopw [6, 8] (fun s j ws => ∃ m : Nat, j = .int .i64 m ∧ m ≤ f.ps.length ∧ s = .int .i64 ((N0 + m : Nat) : Int) ∧ Ext V1 ws) (fun _ j _ => f.ps.length - (intOf j).toNat)
     case atStart => exact ⟨0, rfl, Nat.zero_le _, rfl, xr⟩
     case round =>
      rename World => ws
      obtain ⟨m, rfl, hm, rfl, xs⟩ := hrel
      clear xr
      obtain ⟨m0, m1⟩ := (gM.ext xs).cells
      have hmb : mb < ws.heap.size := Nat.lt_of_lt_of_le hmb0 xs.size
      replace p4 := (Ext.cell xs hmb0).trans p4
      by_cases hmt : m < f.ps.length
      ·obtain ⟨pb, po, epa, hpb0, hPP⟩ := ok1.1 (by omega)
       have okp := ok1.2 _ (List.getElem_mem hmt)
       have hpm := List.getElem_mem hmt
       obtain ⟨r0, r1, r2, r3, r4, r5, r6, r7, r8⟩ := hPP m hmt
       have LA : Hid (lastO none ((l.map BatD.y).map (fun b => ptIn f.nm f.ps[m].y b.2)) = some f.ps[m].y) := Lib.hid (F1.out f.y (List.mem_map_of_mem hfm) f.ps[m].y (List.mem_map_of_mem hpm))
       generalize f.ps[m] = p at *
       rw [epa] at p4
       replace r0 := (Ext.cell xs hpb0).trans r0
       replace r1 := (Ext.cell xs hpb0).trans r1
       replace r2 := (Ext.cell xs hpb0).trans r2
       replace r3 := (Ext.cell xs hpb0).trans r3
       replace r4 := (Ext.cell xs hpb0).trans r4
       replace r5 := (Ext.cell xs hpb0).trans r5
       replace r6 := (Ext.cell xs hpb0).trans r6
       replace r7 := (Ext.cell xs hpb0).trans r7
       replace r8 := (Ext.cell xs hpb0).trans r8
       have m1' : (m : Int) < (f.ps.length : Int) := by omega
       have xp := (Ext.refl ws).alloc (.cells #[.slice p.a p.l.length p.c, .int .i64 p.r, .bool p.f, .int .i64 p.M, .int .i64 p.S, .int .i64 p.m, .int .i64 p.s, .bool p.t, .int .i64 p.T] 40)
       have gP : PtInD ws.heap.size p (ws.alloc (.cells #[.slice p.a p.l.length p.c, .int .i64 p.r, .bool p.f, .int .i64 p.M, .int .i64 p.S, .int .i64 p.m, .int .i64 p.s, .bool p.t, .int .i64 p.T] 40)) := heap_last _ _
       have gQ : PtIn (ws.heap.size + 1) (.slice none 0 0) 0 false 0 0 0 0 false 0 ((ws.alloc (.cells #[.slice p.a p.l.length p.c, .int .i64 p.r, .bool p.f, .int .i64 p.M, .int .i64 p.S, .int .i64 p.m, .int .i64 p.s, .bool p.t, .int .i64 p.T] 40)).alloc (.cells #[.slice none 0 0, .int .i64 0, .bool false, .int .i64 0, .int .i64 0, .int .i64 0, .int .i64 0, .bool false, .int .i64 0] 40)) := by
        have := heap_last (ws.alloc (.cells #[.slice p.a p.l.length p.c, .int .i64 p.r, .bool p.f, .int .i64 p.M, .int .i64 p.S, .int .i64 p.m, .int .i64 p.s, .bool p.t, .int .i64 p.T] 40)) (.cells #[.slice none 0 0, .int .i64 0, .bool false, .int .i64 0, .int .i64 0, .int .i64 0, .int .i64 0, .bool false, .int .i64 0] 40)
        rw [heap_size_alloc] at this
        exact this
       have xq := (Ext.refl (ws.alloc (.cells #[.slice p.a p.l.length p.c, .int .i64 p.r, .bool p.f, .int .i64 p.M, .int .i64 p.S, .int .i64 p.m, .int .i64 p.s, .bool p.t, .int .i64 p.T] 40))).alloc (.cells #[.slice none 0 0, .int .i64 0, .bool false, .int .i64 0, .int .i64 0, .int .i64 0, .int .i64 0, .bool false, .int .i64 0] 40)
       clear hPP hpm
       go_wp2_with fail
       clear m0 m1 p4 r0 r1 r2 r3 r4 r5 r6 r7 r8
       obtain ⟨wp, hwp⟩ : ∃ x, ws.alloc (.cells #[.slice p.a p.l.length p.c, .int .i64 p.r, .bool p.f, .int .i64 p.M, .int .i64 p.S, .int .i64 p.m, .int .i64 p.s, .bool p.t, .int .i64 p.T] 40) = x := ⟨_, rfl⟩
       rw [hwp] at xp gP gQ xq ⊢
       have hQp : wp.heap.size = ws.heap.size + 1 := by rw [← hwp, heap_size_alloc]
       clear hwp
       obtain ⟨PB, hPB⟩ : ∃ x, ws.heap.size = x := ⟨_, rfl⟩
       rw [hPB] at gP gQ hQp ⊢
       try rw [hQp]
       have hQp2 : wp.heap.size ≤ PB + 1 := by omega
       replace hQp := Lib.hid hQp
       replace hPB := Lib.hid hPB
       go_loopw [11, 12] (fun o n wt => ∃ (j : Nat) (okb : Bool) (q : PtD), n = .int .i64 j ∧ j ≤ l.length ∧ o = .bool okb ∧ PtInD (PB + 1) q wt ∧ q.Ok V1 ∧ Hid (lastO none (((l.map BatD.y).take j).map (fun b => ptIn f.nm p.y b.2)) = if okb = true then some q.y else none) ∧ Ext wp wt) (fun _ n _ => l.length - (intOf n).toNat)
       case atStart => exact ⟨0, false, ⟨none, 0, [], 0, false, 0, 0, 0, 0, false, 0⟩, rfl, Nat.zero_le _, rfl, gQ, ok_zero _, Lib.hid rfl, xq⟩
       case round =>
        rename World => wt
        obtain ⟨j, okb, q, rfl, hj, rfl, gq, okq0, hLO, xt⟩ := hrel
        clear gQ xq
        have x3 := (xs.trans xp).trans xt
        replace gP := gP.ext xt
        by_cases hjt : j < l.length
        ·obtain ⟨bb, bo, rfl, hbb0, hBt⟩ := hA.1 (by omega)
         have hfx := hA.2 _ (List.getElem_mem hjt)
         have lowx := low _ (List.getElem_mem hjt)
         obtain ⟨v0, v1⟩ := hBt j hjt
         have hLO2 : Hid (lastO none (((l.map BatD.y).take (j + 1)).map (fun b => ptIn f.nm p.y b.2)) = (ptIn f.nm p.y (l[j].fs.map FamD.y)).or (if okb = true then some q.y else none)) := Lib.hid (by
          rw [List.take_add_one, List.getElem?_map, List.getElem?_eq_getElem hjt, Option.map_some, Option.toList_some, List.map_append, lastO_append, hLO.out]
          rfl)
         generalize l[j] = x at *
         replace v0 := (Ext.cell x3 hbb0).trans v0
         replace v1 := (Ext.cell x3 hbb0).trans v1
         replace p0 := (Ext.cell x3 hmb0).trans p0
         have hbb : bb < wt.heap.size := Nat.lt_of_lt_of_le hbb0 x3.size
         replace hmb := Nat.lt_of_lt_of_le hmb0 x3.size
         have j1 : (j : Int) < (l.length : Int) := by omega
         have HP := fun W (y : Ext wt W) => hPoint_any x.tn x.fa x.fc x.fs f.nm p V1 W (x3.trans y) lowx.big.1 hfx lowx.2.2 okp
         replace gM := gM.ext x3
         clear hBt hfx lowx hLO hA ok1 LA F1 F2 low hN
         go_upto_region 25 with fail
         go_cut [13, 14] (fun s13 s14 wx => ∃ (nb : Nat) (q2 : PtD) (ok2 : Bool), s13 = .pointer (some ⟨nb, 0, none⟩) ∧ s14 = .bool ok2 ∧ PtInD nb q2 wx ∧ Hid ((ok2 = true → ptIn f.nm p.y (x.fs.map FamD.y) = some q2.y) ∧ (ok2 = false → ptIn f.nm p.y (x.fs.map FamD.y) = none)) ∧ q2.Ok V1 ∧ Ext wt wx)
         case first =>
          refine wp_region_held_drew (S := Ext wt) (by kernel_rfl) ((Ext.refl wt).drew) (fun hHeld => ?_)
          refine tk (i := 0) rfl (by kernel_rfl) (fun _ _ _ h => h) rfl (fun w9 hSw => by go_simp; (try with_reducible rfl)) hHeld ?_
          try simp only [Act.put, aT, aZ, aS]
          refine tk (i := 1) rfl (by kernel_rfl) (fun _ _ _ h => h) rfl (fun w9 hSw => by go_simp; (try with_reducible rfl)) hHeld ?_
          try simp only [Act.put, aT, aZ, aS]
          refine tk (i := 2) rfl (by kernel_rfl) (fun _ _ _ h => h) rfl (fun w9 hSw => by go_simp; (try with_reducible rfl)) hHeld ?_
          try simp only [Act.put, aT, aZ, aS]
          refine tk (i := 3) rfl (by kernel_rfl) (fun _ _ _ h => h) rfl (fun w9 hSw => by replace v0 := (Ext.cell hSw hbb).trans v0; replace v1 := (Ext.cell hSw hbb).trans v1; go_simp; (try with_reducible rfl)) hHeld ?_
          try simp only [Act.put, aT, aZ, aS]
          refine tk (i := 4) rfl (by kernel_rfl) (fun _ _ _ h => h) rfl (fun w9 hSw => by go_simp; (try with_reducible rfl)) hHeld ?_
          try simp only [Act.put, aT, aZ, aS]
          refine tk (i := 5) rfl (by kernel_rfl) (fun _ _ _ h => h) rfl (fun w9 hSw => by obtain ⟨m0, m1⟩ := (gM.ext hSw).cells; go_simp; (try with_reducible rfl)) hHeld ?_
          try simp only [Act.put, aT, aZ, aS]
          refine tk (i := 6) rfl (by kernel_rfl) (fun _ _ _ h => h) rfl (fun w9 hSw => by go_simp; (try with_reducible rfl)) hHeld ?_
          try simp only [Act.put, aT, aZ, aS]
          refine tk (i := 7) rfl (by kernel_rfl) (fun _ _ _ h => h) rfl (fun w9 hSw => by go_simp; (try with_reducible rfl)) hHeld ?_
          try simp only [Act.put, aT, aZ, aS]
          refine tk (i := 8) rfl (by kernel_rfl) (fun _ _ _ h => h) rfl (fun w9 hSw => by go_simp; (try with_reducible rfl)) hHeld ?_
          try simp only [Act.put, aT, aZ, aS]
          refine tk (i := 9) rfl (by kernel_rfl) (fun _ _ _ h => h) rfl (fun w9 hSw => by go_simp; (try with_reducible rfl)) hHeld ?_
          try simp only [Act.put, aT, aZ, aS]
          refine tk (i := 10) rfl (by kernel_rfl) (fun _ _ _ h => h) rfl (fun w9 hSw => by replace p0 := (Ext.cell hSw hmb).trans p0; go_simp; (try with_reducible rfl)) hHeld ?_
          try simp only [Act.put, aT, aZ, aS]
          refine tk (i := 11) rfl (by kernel_rfl) (fun _ _ _ h => h) rfl (fun w9 hSw => by obtain ⟨s0, s1, s2, s3, s4, s5, s6, s7, s8⟩ := (gP.ext hSw).cells; go_simp; (try with_reducible rfl)) hHeld ?_
          try simp only [Act.put, aT, aZ, aS]
          obtain ⟨w0, hw0⟩ : ∃ x, wt.drew = x := ⟨_, rfl⟩
          rw [hw0] at hHeld ⊢
          clear hw0
          refine wpAnyH_ready (rs := [12, 16]) (by kernel_rfl) (by simp) (AllReadyH.cons (o := ?om925x12) ?im925x12 (fun K hK => ?km925x12) (AllReadyH.cons (o := ?om925x16) ?im925x16 (fun K hK => ?km925x16) AllReadyH.nil))
          case im925x12 => simp only [List.getElem?_toArray, List.getElem?_cons_succ, List.getElem?_cons_zero]; rfl
          case im925x16 => simp only [List.getElem?_toArray, List.getElem?_cons_succ, List.getElem?_cons_zero]; rfl
          case km925x12 =>
           rw [if_pos (by rfl)]
           go_simp
           go_at_call 13
           (with_reducible refine (HP _ hHeld).mono ?_)
           rintro e wC ⟨⟨q2, ok2, rfl, k1, k2, okq⟩, xc⟩
           have k3 := Lib.hid (And.intro k1 k2)
           clear k1 k2
           refine hK.out _ _ (hHeld.trans xc) (fun hHeld => ?_)
           clear hK K
           try simp only [aT, aZ, aS]
           refine tk (i := 13) rfl (by kernel_rfl) (fun _ _ _ h => h) rfl (fun w9 hSw => by go_simp; (try with_reducible rfl)) hHeld ?_
           try simp only [Act.put, aT, aZ, aS]
           refine tk (i := 14) rfl (by kernel_rfl) (fun _ _ _ h => h) rfl (fun w9 hSw => by go_simp; (try with_reducible rfl)) hHeld ?_
           try simp only [Act.put, aT, aZ, aS]
           refine tk (i := 15) rfl (by kernel_rfl) (fun _ _ _ h => h) rfl (fun w9 hSw => by go_simp; (try with_reducible rfl)) hHeld ?_
           try simp only [Act.put, aT, aZ, aS]
           refine wpAnyH_ready (rs := [16]) (by kernel_rfl) (by simp) (AllReadyH.cons (o := ?om918x16) ?im918x16 (fun K hK => ?km918x16) AllReadyH.nil)
           case im918x16 => simp only [List.getElem?_toArray, List.getElem?_cons_succ, List.getElem?_cons_zero]; rfl
           case km918x16 =>
            rw [if_pos (by rfl)]
            go_simp
            have hnW : wt.heap.size ≤ wC.heap.size := hHeld.size
            refine hK.out _ _ (hHeld.alloc _) (fun hHeld => ?_)
            clear hK K
            try simp only [aT, aZ, aS]
            obtain ⟨wN, hwN⟩ : ∃ x, wC.alloc (.cells #[.slice none 0 0, .int .i64 0, .bool false, .int .i64 0, .int .i64 0, .int .i64 0, .int .i64 0, .bool false, .int .i64 0] 40) = x := ⟨_, rfl⟩
            have xn : Ext wC wN := by rw [← hwN]; exact (Ext.refl _).alloc _
            have al : PtIn wC.heap.size (.slice none 0 0) 0 false 0 0 0 0 false 0 wN := by rw [← hwN]; exact heap_last _ _
            rw [hwN] at hHeld ⊢
            clear hwN
            refine wpAnyH_ready (rs := [17]) (by kernel_rfl) (by simp) (AllReadyH.cons (o := ?om917x17) ?im917x17 (fun K hK => ?km917x17) AllReadyH.nil)
            case im917x17 => simp only [List.getElem?_toArray, List.getElem?_cons_succ, List.getElem?_cons_zero]; rfl
            case km917x17 =>
             rw [if_pos (by rfl)]
             obtain ⟨d0, d1, d2, d3, d4, d5, d6, d7, d8⟩ := al.cells
             have fr := fun o => al.free o
             go_simp
             refine hK.out _ _ (((((((((hHeld.setC wC.heap.size 0 _ hnW).setC wC.heap.size 1 _ hnW).setC wC.heap.size 2 _ hnW).setC wC.heap.size 3 _ hnW).setC wC.heap.size 4 _ hnW).setC wC.heap.size 5 _ hnW).setC wC.heap.size 6 _ hnW).setC wC.heap.size 7 _ hnW).setC wC.heap.size 8 _ hnW) (fun hHeld => ?_)
             have aq := al.all (.slice q2.a q2.l.length q2.c) q2.r q2.f q2.M q2.S q2.m q2.s q2.t q2.T
             clear hK K fr d0 d1 d2 d3 d4 d5 d6 d7 d8
             try simp only [aT, aZ, aS]
             refine tk (i := 18) rfl (by kernel_rfl) (fun _ _ _ h => h) rfl (fun w9 hSw => by go_simp; (try with_reducible rfl)) hHeld ?_
             try simp only [Act.put, aT, aZ, aS]
             refine wpAnyH_done (by kernel_rfl) ?_ _
             go_wp2_with fail
             go_meet
             case rel =>
              exact ⟨_, q2, ok2, rfl, rfl, aq, k3, okq, hHeld⟩
          case km925x16 =>
           rw [if_pos (by rfl)]
           go_simp
           have hnW : wt.heap.size ≤ w0.heap.size := hHeld.size
           refine hK.out _ _ (hHeld.alloc _) (fun hHeld => ?_)
           clear hK K
           try simp only [aT, aZ, aS]
           obtain ⟨wN, hwN⟩ : ∃ x, w0.alloc (.cells #[.slice none 0 0, .int .i64 0, .bool false, .int .i64 0, .int .i64 0, .int .i64 0, .int .i64 0, .bool false, .int .i64 0] 40) = x := ⟨_, rfl⟩
           have xn : Ext w0 wN := by rw [← hwN]; exact (Ext.refl _).alloc _
           have al : PtIn w0.heap.size (.slice none 0 0) 0 false 0 0 0 0 false 0 wN := by rw [← hwN]; exact heap_last _ _
           rw [hwN] at hHeld ⊢
           clear hwN
           refine wpAnyH_ready (rs := [12]) (by kernel_rfl) (by simp) (AllReadyH.cons (o := ?om924x12) ?im924x12 (fun K hK => ?km924x12) AllReadyH.nil)
           case im924x12 => simp only [List.getElem?_toArray, List.getElem?_cons_succ, List.getElem?_cons_zero]; rfl
           case km924x12 =>
            rw [if_pos (by rfl)]
            go_simp
            go_at_call 13
            (with_reducible refine (HP _ hHeld).mono ?_)
            rintro e wC ⟨⟨q2, ok2, rfl, k1, k2, okq⟩, xc⟩
            have k3 := Lib.hid (And.intro k1 k2)
            clear k1 k2
            refine hK.out _ _ (hHeld.trans xc) (fun hHeld => ?_)
            clear hK K
            try simp only [aT, aZ, aS]
            replace al := al.ext xc
            refine tk (i := 13) rfl (by kernel_rfl) (fun _ _ _ h => h) rfl (fun w9 hSw => by go_simp; (try with_reducible rfl)) hHeld ?_
            try simp only [Act.put, aT, aZ, aS]
            refine tk (i := 14) rfl (by kernel_rfl) (fun _ _ _ h => h) rfl (fun w9 hSw => by go_simp; (try with_reducible rfl)) hHeld ?_
            try simp only [Act.put, aT, aZ, aS]
            refine tk (i := 15) rfl (by kernel_rfl) (fun _ _ _ h => h) rfl (fun w9 hSw => by go_simp; (try with_reducible rfl)) hHeld ?_
            try simp only [Act.put, aT, aZ, aS]
            refine wpAnyH_ready (rs := [17]) (by kernel_rfl) (by simp) (AllReadyH.cons (o := ?om923x17) ?im923x17 (fun K hK => ?km923x17) AllReadyH.nil)
            case im923x17 => simp only [List.getElem?_toArray, List.getElem?_cons_succ, List.getElem?_cons_zero]; rfl
            case km923x17 =>
             rw [if_pos (by rfl)]
             obtain ⟨d0, d1, d2, d3, d4, d5, d6, d7, d8⟩ := al.cells
             have fr := fun o => al.free o
             go_simp
             refine hK.out _ _ (((((((((hHeld.setC w0.heap.size 0 _ hnW).setC w0.heap.size 1 _ hnW).setC w0.heap.size 2 _ hnW).setC w0.heap.size 3 _ hnW).setC w0.heap.size 4 _ hnW).setC w0.heap.size 5 _ hnW).setC w0.heap.size 6 _ hnW).setC w0.heap.size 7 _ hnW).setC w0.heap.size 8 _ hnW) (fun hHeld => ?_)
             have aq := al.all (.slice q2.a q2.l.length q2.c) q2.r q2.f q2.M q2.S q2.m q2.s q2.t q2.T
             clear hK K fr d0 d1 d2 d3 d4 d5 d6 d7 d8
             try simp only [aT, aZ, aS]
             refine tk (i := 18) rfl (by kernel_rfl) (fun _ _ _ h => h) rfl (fun w9 hSw => by go_simp; (try with_reducible rfl)) hHeld ?_
             try simp only [Act.put, aT, aZ, aS]
             refine wpAnyH_done (by kernel_rfl) ?_ _
             go_wp2_with fail
             go_meet
             case rel =>
              exact ⟨_, q2, ok2, rfl, rfl, aq, k3, okq, hHeld⟩
         case rest =>
          obtain ⟨nb, q2, ok2, rfl, rfl, al, k3, okq, xx⟩ := hcut
          replace gq := gq.ext xx
          clear HP v0 v1 p0 gP gM
          cases ok2
          ·have e3 : Hid (lastO none (((l.map BatD.y).take (j + 1)).map (fun b => ptIn f.nm p.y b.2)) = if okb = true then some q.y else none) := Lib.hid (by rw [hLO2.out, k3.out.2 rfl]; rfl)
           clear hLO2 k3 al
           go_wp2_with fail
           go_roundw
           case rel => exact ⟨j + 1, okb, q, rfl, hjt, rfl, gq, okq0, e3, xt.trans xx⟩
           case measure => simp only [intOf]; omega
          ·have e3 : Hid (lastO none (((l.map BatD.y).take (j + 1)).map (fun b => ptIn f.nm p.y b.2)) = if true = true then some q2.y else none) := Lib.hid (by rw [hLO2.out, k3.out.1 rfl]; rfl)
           obtain ⟨d0, d1, d2, d3, d4, d5, d6, d7, d8⟩ := al.cells
           have fr := fun o => gq.free o
           obtain ⟨g0, g1, g2, g3, g4, g5, g6, g7, g8⟩ := gq.cells
           have aq := gq.all (.slice q2.a q2.l.length q2.c) q2.r q2.f q2.M q2.S q2.m q2.s q2.t q2.T
           have xy := xt.trans xx
           clear hLO2 k3
           go_wp2_with fail
           go_roundw
           case rel => exact ⟨j + 1, true, q2, rfl, hjt, rfl, aq, okq, e3, (((((((((xy.setC (PB + 1) 0 _ hQp2).setC (PB + 1) 1 _ hQp2).setC (PB + 1) 2 _ hQp2).setC (PB + 1) 3 _ hQp2).setC (PB + 1) 4 _ hQp2).setC (PB + 1) 5 _ hQp2).setC (PB + 1) 6 _ hQp2).setC (PB + 1) 7 _ hQp2).setC (PB + 1) 8 _ hQp2)⟩
           case measure => simp only [intOf]; omega
        ·have j1 : ¬ (j : Int) < (l.length : Int) := by omega
         have e3 := hLO.out
         rw [List.take_of_length_le (by rw [List.length_map]; omega), LA.out] at e3
         cases okb
         ·cases e3
         injection e3 with e4
         have SP := rSameP_any p q wt (okp.ext x3) (okq0.ext x3)
         rw [← e4, sameY_refl] at SP
         unfold PtD.v ptV at SP
         obtain ⟨s0, s1, s2, s3, s4, s5, s6, s7, s8⟩ := gP.cells
         obtain ⟨g0, g1, g2, g3, g4, g5, g6, g7, g8⟩ := gq.cells
         have w1' : IntKind.i64.wrap (((N0 + m : Nat) : Int) + 1) = ((N0 + (m + 1) : Nat) : Int) := by rw [IntWalk.i64_in _ (by omega)]; omega
         clear hLO e4 LA F1 F2 hA ok1 low hN
         go_wp2_with fail
         (with_reducible refine SP.mono ?_)
         rintro e w9 ⟨rfl, x9⟩
         clear SP s0 s1 s2 s3 s4 s5 s6 s7 s8 g0 g1 g2 g3 g4 g5 g6 g7 g8
         go_wp2_with fail
         go_roundw
         case rel => exact ⟨m + 1, rfl, hmt, rfl, x3.trans x9⟩
         case measure => simp only [intOf]; omega
      ·have m1' : ¬ (m : Int) < (f.ps.length : Int) := by omega
       obtain rfl : m = f.ps.length := by omega
       clear ok1 hA F1 F2 low
       go_wp2_with fail
       go_roundw
       case rel => exact ⟨k + 1, rfl, hlt, by rw [hN.out], xs⟩
       case measure => simp only [intOf]; omega
    ·obtain rfl : k = M.length := by omega
     rw [List.take_of_length_le (by simp)]
     have i1 : ¬ ((M.length : Nat) : Int) < (M.length : Int) := by omega
     clear F1
     go_wp2_with fail
     clear m0 m1
     replace gM := gM.ext xr
     replace hA := hA.ext xr
     replace hM := hM.ext xr
     replace z1 := z1.trans xr
     clear xr hlt i1
     go_loopw [15] (fun n wx => ∃ j : Nat, n = .int .i64 j ∧ j ≤ l.length ∧ Ext wr wx) (fun n _ => l.length - (intOf n).toNat)
     case atStart => exact ⟨0, rfl, Nat.zero_le _, Ext.refl _⟩
     case round =>
      rename World => wx
      obtain ⟨j, rfl, hj, xj⟩ := hrel
      by_cases hjt : j < l.length
      ·obtain ⟨bb, bo, rfl, hbb0, hBt⟩ := hA.1 (by omega)
       have hfx := hA.2 _ (List.getElem_mem hjt)
       have lowx := low _ (List.getElem_mem hjt)
       have hxm := List.getElem_mem hjt
       obtain ⟨v0, v1⟩ := hBt j hjt
       generalize l[j] = x at *
       have hxl := lowx.1
       have j1 : (j : Int) < (l.length : Int) := by omega
       clear hBt hA low
       go_wp2_with fail
       go_loopw [16] (fun i wy => ∃ m : Nat, i = .int .i64 m ∧ m ≤ x.fs.length ∧ Ext wr wy) (fun i _ => x.fs.length - (intOf i).toNat)
       case atStart => exact ⟨0, rfl, Nat.zero_le _, xj⟩
       case round =>
        rename World => wy
        obtain ⟨m, rfl, hm, xs⟩ := hrel
        clear xj
        replace v1 := (Ext.cell xs hbb0).trans v1
        by_cases hmt : m < x.fs.length
        ·obtain ⟨fb, fo, efa, hfb0, hFt⟩ := hfx.1 (by omega)
         have hpx := hfx.2 _ (List.getElem_mem hmt)
         have smf := (lowx.2.2 _ (List.getElem_mem hmt)).pl
         have hfm := List.getElem_mem hmt
         obtain ⟨u0, u1, u2, u3, u4⟩ := hFt m hmt
         generalize x.fs[m] = f at *
         rw [efa] at v1
         replace u0 := (Ext.cell xs hfb0).trans u0
         replace u1 := (Ext.cell xs hfb0).trans u1
         replace u2 := (Ext.cell xs hfb0).trans u2
         replace u3 := (Ext.cell xs hfb0).trans u3
         replace u4 := (Ext.cell xs hfb0).trans u4
         have m1' : (m : Int) < (x.fs.length : Int) := by omega
         have xf := (Ext.refl wy).alloc (.cells #[.string f.nm, .int .i64 f.k, .string f.un, .string f.he, .slice f.pa f.ps.length f.pc] 35)
         have gF : FamIn wy.heap.size f.nm f.k f.un f.he (.slice f.pa f.ps.length f.pc) (wy.alloc (.cells #[.string f.nm, .int .i64 f.k, .string f.un, .string f.he, .slice f.pa f.ps.length f.pc] 35)) := heap_last _ _
         clear hFt hfx
         go_wp2_with fail
         clear u0 u1 u2 u3 u4 v0 v1
         obtain ⟨wf, hwf⟩ : ∃ y, wy.alloc (.cells #[.string f.nm, .int .i64 f.k, .string f.un, .string f.he, .slice f.pa f.ps.length f.pc] 35) = y := ⟨_, rfl⟩
         rw [hwf] at xf gF ⊢
         clear hwf
         obtain ⟨FB, hFB⟩ : ∃ y, wy.heap.size = y := ⟨_, rfl⟩
         rw [hFB] at gF ⊢
         replace hFB := Lib.hid hFB
         go_loopw [18] (fun i wt => ∃ n : Nat, i = .int .i64 n ∧ n ≤ f.ps.length ∧ Ext wf wt) (fun i _ => f.ps.length - (intOf i).toNat)
         case atStart => exact ⟨0, rfl, Nat.zero_le _, Ext.refl _⟩
         case round =>
          rename World => wt
          obtain ⟨n, rfl, hn, xt⟩ := hrel
          replace gF := gF.ext xt
          have x3 := (xs.trans xf).trans xt
          obtain ⟨s0, s1, s2, s3, s4⟩ := gF.cells
          by_cases hnt : n < f.ps.length
          ·obtain ⟨pb, po, epa, hpb0, hPP⟩ := hpx.1 (by omega)
           have okp := hpx.2 _ (List.getElem_mem hnt)
           have hpm := List.getElem_mem hnt
           obtain ⟨r0, r1, r2, r3, r4, r5, r6, r7, r8⟩ := hPP n hnt
           have HI : Hid ((ptIn f.nm f.ps[n].y (M.map FamD.y)).isSome = true) := Lib.hid (F2.out x.y (List.mem_map_of_mem hxm) f.y (List.mem_map_of_mem hfm) f.ps[n].y (List.mem_map_of_mem hpm))
           generalize f.ps[n] = p at *
           rw [epa] at s4 gF
           clear epa
           replace r0 := (Ext.cell x3 hpb0).trans r0
           replace r1 := (Ext.cell x3 hpb0).trans r1
           replace r2 := (Ext.cell x3 hpb0).trans r2
           replace r3 := (Ext.cell x3 hpb0).trans r3
           replace r4 := (Ext.cell x3 hpb0).trans r4
           replace r5 := (Ext.cell x3 hpb0).trans r5
           replace r6 := (Ext.cell x3 hpb0).trans r6
           replace r7 := (Ext.cell x3 hpb0).trans r7
           replace r8 := (Ext.cell x3 hpb0).trans r8
           have hpb : pb < wt.heap.size := Nat.lt_of_lt_of_le hpb0 x3.size
           have n1 : (n : Int) < (f.ps.length : Int) := by omega
           have HP := fun W (y : Ext wt W) => hPoint_any tn aM cM M f.nm p wr W (x3.trans y) (by omega) hM lowM.2.2 okp
           replace gM := gM.ext x3
           clear hPP hpm F2
           go_upto_region 41 with fail
           go_cut [19, 20] (fun s19 s20 wx => s20 = .bool true ∧ Ext wt wx)
           case first =>
            refine wp_region_held_drew (S := Ext wt) (by kernel_rfl) ((Ext.refl wt).drew) (fun hHeld => ?_)
            refine tk (i := 0) rfl (by kernel_rfl) (fun _ _ _ h => h) rfl (fun w9 hSw => by obtain ⟨m0, m1⟩ := (gM.ext hSw).cells; go_simp; (try with_reducible rfl)) hHeld ?_
            try simp only [Act.put, aT, aZ, aS]
            refine tk (i := 1) rfl (by kernel_rfl) (fun _ _ _ h => h) rfl (fun w9 hSw => by go_simp; (try with_reducible rfl)) hHeld ?_
            try simp only [Act.put, aT, aZ, aS]
            refine tk (i := 2) rfl (by kernel_rfl) (fun _ _ _ h => h) rfl (fun w9 hSw => by go_simp; (try with_reducible rfl)) hHeld ?_
            try simp only [Act.put, aT, aZ, aS]
            refine tk (i := 3) rfl (by kernel_rfl) (fun _ _ _ h => h) rfl (fun w9 hSw => by obtain ⟨s0, s1, s2, s3, s4⟩ := (gF.ext hSw).cells; go_simp; (try with_reducible rfl)) hHeld ?_
            try simp only [Act.put, aT, aZ, aS]
            refine tk (i := 4) rfl (by kernel_rfl) (fun _ _ _ h => h) rfl (fun w9 hSw => by go_simp; (try with_reducible rfl)) hHeld ?_
            try simp only [Act.put, aT, aZ, aS]
            refine tk (i := 5) rfl (by kernel_rfl) (fun _ _ _ h => h) rfl (fun w9 hSw => by obtain ⟨s0, s1, s2, s3, s4⟩ := (gF.ext hSw).cells; go_simp; (try with_reducible rfl)) hHeld ?_
            try simp only [Act.put, aT, aZ, aS]
            refine tk (i := 6) rfl (by kernel_rfl) (fun _ _ _ h => h) rfl (fun w9 hSw => by go_simp; (try with_reducible rfl)) hHeld ?_
            try simp only [Act.put, aT, aZ, aS]
            refine tk (i := 7) rfl (by kernel_rfl) (fun _ _ _ h => h) rfl (fun w9 hSw => by go_simp; (try with_reducible rfl)) hHeld ?_
            try simp only [Act.put, aT, aZ, aS]
            refine tk (i := 8) rfl (by kernel_rfl) (fun _ _ _ h => h) rfl (fun w9 hSw => by replace r0 := (Ext.cell hSw hpb).trans r0; replace r1 := (Ext.cell hSw hpb).trans r1; replace r2 := (Ext.cell hSw hpb).trans r2; replace r3 := (Ext.cell hSw hpb).trans r3; replace r4 := (Ext.cell hSw hpb).trans r4; replace r5 := (Ext.cell hSw hpb).trans r5; replace r6 := (Ext.cell hSw hpb).trans r6; replace r7 := (Ext.cell hSw hpb).trans r7; replace r8 := (Ext.cell hSw hpb).trans r8; go_simp; (try with_reducible rfl)) hHeld ?_
            try simp only [Act.put, aT, aZ, aS]
            obtain ⟨w0, hw0⟩ : ∃ x, wt.drew = x := ⟨_, rfl⟩
            rw [hw0] at hHeld ⊢
            clear hw0
            refine wpAnyH_ready (rs := [9, 13]) (by kernel_rfl) (by simp) (AllReadyH.cons (o := ?om947x9) ?im947x9 (fun K hK => ?km947x9) (AllReadyH.cons (o := ?om947x13) ?im947x13 (fun K hK => ?km947x13) AllReadyH.nil))
            case im947x9 => simp only [List.getElem?_toArray, List.getElem?_cons_succ, List.getElem?_cons_zero]; rfl
            case im947x13 => simp only [List.getElem?_toArray, List.getElem?_cons_succ, List.getElem?_cons_zero]; rfl
            case km947x9 =>
             rw [if_pos (by rfl)]
             go_simp
             go_at_call 13
             (with_reducible refine (HP _ hHeld).mono ?_)
             rintro e wC ⟨⟨q2, ok2, rfl, k1, k2, okq⟩, xc⟩
             have k3 := Lib.hid (And.intro k1 k2)
             clear k1 k2
             refine hK.out _ _ (hHeld.trans xc) (fun hHeld => ?_)
             clear hK K
             try simp only [aT, aZ, aS]
             refine tk (i := 10) rfl (by kernel_rfl) (fun _ _ _ h => h) rfl (fun w9 hSw => by go_simp; (try with_reducible rfl)) hHeld ?_
             try simp only [Act.put, aT, aZ, aS]
             refine tk (i := 11) rfl (by kernel_rfl) (fun _ _ _ h => h) rfl (fun w9 hSw => by go_simp; (try with_reducible rfl)) hHeld ?_
             try simp only [Act.put, aT, aZ, aS]
             refine tk (i := 12) rfl (by kernel_rfl) (fun _ _ _ h => h) rfl (fun w9 hSw => by go_simp; (try with_reducible rfl)) hHeld ?_
             try simp only [Act.put, aT, aZ, aS]
             refine wpAnyH_ready (rs := [13]) (by kernel_rfl) (by simp) (AllReadyH.cons (o := ?om940x13) ?im940x13 (fun K hK => ?km940x13) AllReadyH.nil)
             case im940x13 => simp only [List.getElem?_toArray, List.getElem?_cons_succ, List.getElem?_cons_zero]; rfl
             case km940x13 =>
              rw [if_pos (by rfl)]
              go_simp
              have hnW : wt.heap.size ≤ wC.heap.size := hHeld.size
              refine hK.out _ _ (hHeld.alloc _) (fun hHeld => ?_)
              clear hK K
              try simp only [aT, aZ, aS]
              obtain ⟨wN, hwN⟩ : ∃ x, wC.alloc (.cells #[.slice none 0 0, .int .i64 0, .bool false, .int .i64 0, .int .i64 0, .int .i64 0, .int .i64 0, .bool false, .int .i64 0] 40) = x := ⟨_, rfl⟩
              have xn : Ext wC wN := by rw [← hwN]; exact (Ext.refl _).alloc _
              have al : PtIn wC.heap.size (.slice none 0 0) 0 false 0 0 0 0 false 0 wN := by rw [← hwN]; exact heap_last _ _
              rw [hwN] at hHeld ⊢
              clear hwN
              refine wpAnyH_ready (rs := [14]) (by kernel_rfl) (by simp) (AllReadyH.cons (o := ?om939x14) ?im939x14 (fun K hK => ?km939x14) AllReadyH.nil)
              case im939x14 => simp only [List.getElem?_toArray, List.getElem?_cons_succ, List.getElem?_cons_zero]; rfl
              case km939x14 =>
               rw [if_pos (by rfl)]
               obtain ⟨d0, d1, d2, d3, d4, d5, d6, d7, d8⟩ := al.cells
               have fr := fun o => al.free o
               go_simp
               refine hK.out _ _ (((((((((hHeld.setC wC.heap.size 0 _ hnW).setC wC.heap.size 1 _ hnW).setC wC.heap.size 2 _ hnW).setC wC.heap.size 3 _ hnW).setC wC.heap.size 4 _ hnW).setC wC.heap.size 5 _ hnW).setC wC.heap.size 6 _ hnW).setC wC.heap.size 7 _ hnW).setC wC.heap.size 8 _ hnW) (fun hHeld => ?_)
               have aq := al.all (.slice q2.a q2.l.length q2.c) q2.r q2.f q2.M q2.S q2.m q2.s q2.t q2.T
               clear hK K fr d0 d1 d2 d3 d4 d5 d6 d7 d8
               try simp only [aT, aZ, aS]
               refine tk (i := 15) rfl (by kernel_rfl) (fun _ _ _ h => h) rfl (fun w9 hSw => by go_simp; (try with_reducible rfl)) hHeld ?_
               try simp only [Act.put, aT, aZ, aS]
               refine wpAnyH_done (by kernel_rfl) ?_ _
               go_wp2_with fail
               go_meet
               case rel =>
                exact ⟨by rw [yes_of HI.out k3.out], hHeld⟩
            case km947x13 =>
             rw [if_pos (by rfl)]
             go_simp
             have hnW : wt.heap.size ≤ w0.heap.size := hHeld.size
             refine hK.out _ _ (hHeld.alloc _) (fun hHeld => ?_)
             clear hK K
             try simp only [aT, aZ, aS]
             obtain ⟨wN, hwN⟩ : ∃ x, w0.alloc (.cells #[.slice none 0 0, .int .i64 0, .bool false, .int .i64 0, .int .i64 0, .int .i64 0, .int .i64 0, .bool false, .int .i64 0] 40) = x := ⟨_, rfl⟩
             have xn : Ext w0 wN := by rw [← hwN]; exact (Ext.refl _).alloc _
             have al : PtIn w0.heap.size (.slice none 0 0) 0 false 0 0 0 0 false 0 wN := by rw [← hwN]; exact heap_last _ _
             rw [hwN] at hHeld ⊢
             clear hwN
             refine wpAnyH_ready (rs := [9]) (by kernel_rfl) (by simp) (AllReadyH.cons (o := ?om946x9) ?im946x9 (fun K hK => ?km946x9) AllReadyH.nil)
             case im946x9 => simp only [List.getElem?_toArray, List.getElem?_cons_succ, List.getElem?_cons_zero]; rfl
             case km946x9 =>
              rw [if_pos (by rfl)]
              go_simp
              go_at_call 13
              (with_reducible refine (HP _ hHeld).mono ?_)
              rintro e wC ⟨⟨q2, ok2, rfl, k1, k2, okq⟩, xc⟩
              have k3 := Lib.hid (And.intro k1 k2)
              clear k1 k2
              refine hK.out _ _ (hHeld.trans xc) (fun hHeld => ?_)
              clear hK K
              try simp only [aT, aZ, aS]
              replace al := al.ext xc
              refine tk (i := 10) rfl (by kernel_rfl) (fun _ _ _ h => h) rfl (fun w9 hSw => by go_simp; (try with_reducible rfl)) hHeld ?_
              try simp only [Act.put, aT, aZ, aS]
              refine tk (i := 11) rfl (by kernel_rfl) (fun _ _ _ h => h) rfl (fun w9 hSw => by go_simp; (try with_reducible rfl)) hHeld ?_
              try simp only [Act.put, aT, aZ, aS]
              refine tk (i := 12) rfl (by kernel_rfl) (fun _ _ _ h => h) rfl (fun w9 hSw => by go_simp; (try with_reducible rfl)) hHeld ?_
              try simp only [Act.put, aT, aZ, aS]
              refine wpAnyH_ready (rs := [14]) (by kernel_rfl) (by simp) (AllReadyH.cons (o := ?om945x14) ?im945x14 (fun K hK => ?km945x14) AllReadyH.nil)
              case im945x14 => simp only [List.getElem?_toArray, List.getElem?_cons_succ, List.getElem?_cons_zero]; rfl
              case km945x14 =>
               rw [if_pos (by rfl)]
               obtain ⟨d0, d1, d2, d3, d4, d5, d6, d7, d8⟩ := al.cells
               have fr := fun o => al.free o
               go_simp
               refine hK.out _ _ (((((((((hHeld.setC w0.heap.size 0 _ hnW).setC w0.heap.size 1 _ hnW).setC w0.heap.size 2 _ hnW).setC w0.heap.size 3 _ hnW).setC w0.heap.size 4 _ hnW).setC w0.heap.size 5 _ hnW).setC w0.heap.size 6 _ hnW).setC w0.heap.size 7 _ hnW).setC w0.heap.size 8 _ hnW) (fun hHeld => ?_)
               have aq := al.all (.slice q2.a q2.l.length q2.c) q2.r q2.f q2.M q2.S q2.m q2.s q2.t q2.T
               clear hK K fr d0 d1 d2 d3 d4 d5 d6 d7 d8
               try simp only [aT, aZ, aS]
               refine tk (i := 15) rfl (by kernel_rfl) (fun _ _ _ h => h) rfl (fun w9 hSw => by go_simp; (try with_reducible rfl)) hHeld ?_
               try simp only [Act.put, aT, aZ, aS]
               refine wpAnyH_done (by kernel_rfl) ?_ _
               go_wp2_with fail
               go_meet
               case rel =>
                exact ⟨by rw [yes_of HI.out k3.out], hHeld⟩
           case rest =>
            obtain ⟨rfl, xx⟩ := hcut
            clear HP gM gF r0 r1 r2 r3 r4 r5 r6 r7 r8 s0 s1 s2 s3 s4
            go_wp2_with fail
            go_roundw
            case rel => exact ⟨n + 1, rfl, hnt, xt.trans xx⟩
            case measure => simp only [intOf]; omega
          ·have n1 : ¬ (n : Int) < (f.ps.length : Int) := by omega
           clear F2
           go_wp2_with fail
           go_roundw
           case rel => exact ⟨m + 1, rfl, hmt, x3⟩
           case measure => simp only [intOf]; omega
        ·have m1' : ¬ (m : Int) < (x.fs.length : Int) := by omega
         clear F2
         go_wp2_with fail
         go_roundw
         case rel => exact ⟨j + 1, rfl, hjt, xs⟩
         case measure => simp only [intOf]; omega
      ·have j1 : ¬ (j : Int) < (l.length : Int) := by omega
       obtain ⟨m0, m1⟩ := (gM.ext xj).cells
       have RP := rPoints_any aM cM M wx (by omega) (hM.ext xj) hMs
       clear hA F2 low hM
       go_wp2_with fail
       (with_reducible refine RP.mono ?_)
       rintro e w9 ⟨rfl, x9⟩
       go_wp2_with fail
       go_ret
       exact ⟨rfl, (z1.trans xj).trans x9⟩
end Go.Proofs.YtjjnmefihdjglaaGreat
