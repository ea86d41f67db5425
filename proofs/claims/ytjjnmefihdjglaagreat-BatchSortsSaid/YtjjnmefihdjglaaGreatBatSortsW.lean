import Derived.Test.YtjjnmefihdjglaaGreatKR
import Derived.Test.YtjjnmefihdjglaaGreatKL
import Derived.Test.YtjjnmefihdjglaaGreatKI
import Derived.Deep.DeepCutAuto
namespace Go.Proofs.YtjjnmefihdjglaaGreat
set_option linter.all false
open Go.RowKit
theorem turnedF {α : Type} (l : List α) (k : Nat) : (l.drop k ++ l.take k).Perm l := by
 have := List.take_append_drop k l
 conv => rhs; rw [← this]
 exact List.perm_append_comm
def fzD (zn : ByteArray) : FamD := ⟨zn, 0, ⟨#[]⟩, ⟨#[]⟩, none, 0, []⟩
theorem FamsA.one0 {g : Nat} {zn : ByteArray} {w : World} (h : w.heap[g]? = some (.cells #[.string zn, .int .i64 0, .string ⟨#[]⟩, .string ⟨#[]⟩, .slice none 0 0] 35 (0, 0))) : FamsA (some ⟨g, 0, none⟩) [fzD zn] w := by
 refine ⟨fun _ => ⟨g, 0, rfl, (Array.getElem?_eq_some_iff.1 h).1, fun i hi => ?_⟩, fun q hq => by rw [List.mem_singleton] at hq; subst hq; exact ⟨fun h => absurd h (by simp [fzD]), by intro p hp; simp [fzD] at hp⟩⟩
 simp only [Lib.cell_of_heap h]
 match i, hi with
 | 0, _ => exact ⟨rfl, rfl, rfl, rfl, rfl⟩
theorem fzD_sm (zn : ByteArray) (h : zn.size ≤ 1000) : (fzD zn).y.Sm := ⟨h, by show (0 : Nat) ≤ 1000; decide, by show (0 : Nat) ≤ 1000; decide, by show (0 : Nat) ≤ 1000; decide, by intro q hq; cases hq⟩
theorem sortB_twice {tn : ByteArray} {L M : List FamY} (G : GoodB tn L) (p : M.Perm L) (f : FamY) (hf : f ∈ M) : sortB (M ++ [(fzD f.nm).y]) = none := by
 unfold sortB
 have h1 : srts (M ++ [(fzD f.nm).y]) = some (M ++ [(fzD f.nm).y]) := srts_self (fun x hx => by
  rcases List.mem_append.1 hx with hx | hx
  ·exact goodF_ris (G.good x (p.subset hx))
  ·rw [List.mem_singleton] at hx
   subst hx
   exact List.Pairwise.nil)
 rw [h1, Option.bind_some]
 exact sortN_dup hf (List.mem_singleton.2 rfl) (cmpS_cmp.refl f.nm)
set_option maxHeartbeats 16000000 in
set_option maxRecDepth 100000 in
theorem BatchSorts_main (tn : ByteArray) (A : Option Addr) (c : Nat) (l : List FamD) (turn : Int) (w : World) (g : BatGot w tn A c l) (ht : 0 ≤ turn ∧ turn ≤ 255) :
  Calls Tryz.prog 5 #[.agg #[.string tn, .slice A l.length c], .int .u8 turn] w fun e w' => e = .returned (.bool true) ∧ Ext w w' := by
 obtain ⟨W, hW⟩ : ∃ W, w.alloc (.cells #[.string tn, .slice A l.length c] 27) = W := ⟨_, rfl⟩
 have z1 : Ext w W := by rw [← hW]; exact (Ext.refl w).alloc _
 have gB : BatIn w.heap.size tn (.slice A l.length c) W := by rw [← hW]; exact heap_last _ _
 replace hW := Lib.hid hW
 obtain ⟨B, hB⟩ : ∃ B, w.heap.size = B := ⟨_, rfl⟩
 rw [hB] at gB
 have hA := g.fams.ext z1
 have hlm := g.len
 have hlc := g.le
 have hcm := g.cm
 have hfl : ∀ f ∈ l, (f.ps.length : Int) ≤ 9223372036854775807 := fun f hf => (g.got f hf).ext0
 clear g
 go_enter Tryz.func5, Tryz.ntmps5
 go_wp2_with fail
 rw [hW.out]
 (with_reducible refine (known10_any _).mono ?_)
 rintro e w1 ⟨rfl, y1⟩
 replace gB := gB.ext y1
 replace hA := hA.ext y1
 replace z1 := z1.trans y1
 clear hW hB y1
 obtain ⟨b0, b1⟩ := gB.cells
 go_wp2_with fail
 (with_reducible refine (wide_any tn A c l w1 hlm hA hfl).mono ?_)
 rintro e w2 ⟨⟨sb, rfl, hsb⟩, y1⟩
 replace gB := gB.ext y1
 replace hA := hA.ext y1
 replace z1 := z1.trans y1
 clear b0 b1 y1 hfl
 obtain ⟨b0, b1⟩ := gB.cells
 cases sb
 rotate_left
 ·clear hsb
  go_wp2_with fail
  go_ret
  exact ⟨rfl, z1⟩
 obtain ⟨h40, h100, hnar⟩ := hsb rfl
 clear hsb
 have hs : ∀ f ∈ l, f.y.Sm := fun f hf => (hnar f hf).sm
 have RC := rCheck_any tn A c l w2 (by omega) (by omega) hA hs
 obtain ⟨r, hr⟩ : ∃ r, checkB tn (l.map FamD.y) = r := ⟨_, rfl⟩
 rw [hr] at RC
 go_wp2_with fail
 (with_reducible refine RC.mono ?_)
 rintro e w3 ⟨rfl, y1⟩
 replace gB := gB.ext y1
 replace hA := hA.ext y1
 replace z1 := z1.trans y1
 clear b0 b1 y1 RC hnar
 obtain ⟨b0, b1⟩ := gB.cells
 by_cases hr0 : r = 0
 rotate_left
 ·have hrb : (r != 0) = true := by simpa using hr0
  go_wp2_with fail
  go_ret
  exact ⟨rfl, z1⟩
 subst hr0
 by_cases h0 : l.length = 0
 ·have h0' : (l.length : Int) = 0 := by omega
  clear hr
  go_wp2_with fail
  go_ret
  exact ⟨rfl, z1⟩
 have h0' : ¬ (l.length : Int) = 0 := by omega
 have hlpos : 0 < l.length := by omega
 have GB := GoodB.of hr
 replace hr := Lib.hid hr
 obtain ⟨k, hk⟩ : ∃ k : Nat, turn % (l.length : Int) = (k : Int) := ⟨(turn % (l.length : Int)).toNat, by have := Int.emod_nonneg turn (show (l.length : Int) ≠ 0 by omega); omega⟩
 have hkl : k < l.length := by have := Int.emod_lt_of_pos turn (show (0 : Int) < l.length by omega); omega
 have ht1 : IntKind.i64.wrap turn = turn := IntWalk.i64_in _ (by omega)
 have ht2 : turn.tmod (l.length : Int) = (k : Int) := by rw [Int.tmod_eq_emod_of_nonneg ht.1]; exact hk
 obtain ⟨b, o, hAe, hb, hPP⟩ := hA.1 hlpos
 subst hAe
 have kc : (k : Int) < (c : Int) := by omega
 have hck : ¬ c = k := by omega
 have kl : (k : Int) < (l.length : Int) := by omega
 have kle : (k : Int) ≤ (l.length : Int) := by omega
 have kce : (k : Int) ≤ (c : Int) := by omega
 go_upto_region 6 with fail
 obtain ⟨WW, hWW⟩ : ∃ WW, w3 = WW := ⟨_, rfl⟩
 subst hWW
 have hBB : B < w3.heap.size := gB.lt
 obtain ⟨LL, hLL⟩ : ∃ LL, l.drop k ++ l.take k = LL := ⟨_, rfl⟩
 have hpm : LL.Perm l := by rw [← hLL]; exact turnedF l k
 have hLLs : ∀ f ∈ LL, f.y.Sm := fun f hf => hs f (hpm.subset hf)
 replace hLL := Lib.hid hLL
 replace hpm := Lib.hid hpm
 go_cut [6] (fun s wx => ∃ a5 c5, s = .slice a5 LL.length c5 ∧ FamsA a5 LL wx ∧ Ext w3 wx)
 case first =>
  refine wp_region_held_drew (S := Ext w3) (by kernel_rfl) ((Ext.refl w3).drew) (fun hHeld => ?_)
  refine tk (i := 0) rfl (by kernel_rfl) (fun _ _ _ h => h) rfl (fun w9 hSw => by go_simp; (try with_reducible rfl)) hHeld ?_
  try simp only [Act.put, aT, aZ, aS]
  refine tk (i := 1) rfl (by kernel_rfl) (fun _ _ _ h => h) rfl (fun w9 hSw => by replace b0 := (Ext.cell hSw hBB).trans b0; replace b1 := (Ext.cell hSw hBB).trans b1; go_simp; (try with_reducible rfl)) hHeld ?_
  try simp only [Act.put, aT, aZ, aS]
  refine tk (i := 2) rfl (by kernel_rfl) (fun _ _ _ h => h) rfl (fun w9 hSw => by go_simp; (try with_reducible rfl)) hHeld ?_
  try simp only [Act.put, aT, aZ, aS]
  refine tk (i := 3) rfl (by kernel_rfl) (fun _ _ _ h => h) rfl (fun w9 hSw => by go_simp; (try with_reducible rfl)) hHeld ?_
  try simp only [Act.put, aT, aZ, aS]
  refine tk (i := 5) rfl (by kernel_rfl) (fun _ _ _ h => h) rfl (fun w9 hSw => by go_simp; (try with_reducible rfl)) hHeld ?_
  try simp only [Act.put, aT, aZ, aS]
  refine tk (i := 6) rfl (by kernel_rfl) (fun _ _ _ h => h) rfl (fun w9 hSw => by replace b0 := (Ext.cell hSw hBB).trans b0; replace b1 := (Ext.cell hSw hBB).trans b1; go_simp; (try with_reducible rfl)) hHeld ?_
  try simp only [Act.put, aT, aZ, aS]
  refine tk (i := 7) rfl (by kernel_rfl) (fun _ _ _ h => h) rfl (fun w9 hSw => by go_simp; (try with_reducible rfl)) hHeld ?_
  try simp only [Act.put, aT, aZ, aS]
  refine tk (i := 8) rfl (by kernel_rfl) (fun _ _ _ h => h) rfl (fun w9 hSw => by go_simp; (try with_reducible rfl)) hHeld ?_
  try simp only [Act.put, aT, aZ, aS]
  obtain ⟨w0, hw0⟩ : ∃ x, w3.drew = x := ⟨_, rfl⟩
  rw [hw0] at hHeld ⊢
  clear hw0
  refine wpAnyH_ready (rs := [4]) (by kernel_rfl) (by simp) (AllReadyH.cons (o := ?om409A1) ?im409A1 (fun K hK => ?km409A1) AllReadyH.nil)
  case im409A1 => simp only [List.getElem?_toArray, List.getElem?_cons_succ, List.getElem?_cons_zero]; rfl
  case km409A1 =>
   rw [if_pos (by rfl)]
   have hbW : w3.heap.size ≤ w0.heap.size := hHeld.size
   obtain ⟨v1, wA, ea, ra, xa⟩ := app_nil tyFam (fun _ => rfl) famC_one (by decide) w0 25 FamD.zero ⟨b, o + k * 5, none⟩ (l.drop k) (l.length - k) (c - k) (FamsA.src ((hA.ext hHeld).from k)) (by first | rfl | rw [List.length_drop]) (by omega) (by omega) (by omega)
   refine Lib.wp_append_run _ _ _ _ _ rfl _ _ rfl rfl v1 wA ea (hK.out _ _ (hHeld.trans xa) (fun hHeld => ?_))
   clear hK K ea
   try simp only [aT, aZ, aS]
   have hba : w0.heap.size ≤ wA.heap.size := xa.size
   refine wpAnyH_ready (rs := [9]) (by kernel_rfl) (by simp) (AllReadyH.cons (o := ?om410A2) ?im410A2 (fun K hK => ?km410A2) AllReadyH.nil)
   case im410A2 => simp only [List.getElem?_toArray, List.getElem?_cons_succ, List.getElem?_cons_zero]; rfl
   case km410A2 =>
    rw [if_pos (by rfl)]
    obtain ⟨v2, wB, eb, rb, gb, _⟩ := app_row tyFam (fun _ => rfl) famC_one (by decide) wA 25 FamD.zero w0.heap.size (l.length - k) v1 (l.drop k) ra (by first | rfl | rw [List.length_drop]) (by omega) hba ⟨b, o, none⟩ (l.take k) k c (FamsA.src ((hA.ext hHeld).upto k)) (by first | rfl | (rw [List.length_take]; omega)) (by omega) (by omega)
    have xb : Ext w3 wB := grown_ext' hHeld gb (Nat.le_refl _) (fun g hg => by have := (ra.lt g hg).1; omega)
    refine Lib.wp_append_run _ _ _ _ _ rfl _ _ rfl rfl v2 wB eb (hK.out _ _ xb (fun hHeld => ?_))
    clear hK K eb
    try simp only [aT, aZ, aS]
    obtain ⟨a5, c5, hv5, rp⟩ := rb.fams (by (simp only [List.length_append, List.length_drop, List.length_take, List.length_singleton]) <;> omega) (fun f hf => (hA.2 f ((turnedF l k).mem_iff.1 hf)).ext xb)
    rw [hLL.out] at hv5 rp
    subst hv5
    clear rb
    clear gb ra hba
    refine tk (i := 10) rfl (by kernel_rfl) (fun _ _ _ h => h) rfl (fun w9 hSw => by go_simp; (try with_reducible rfl)) hHeld ?_
    try simp only [Act.put, aT, aZ, aS]
    refine wpAnyH_done (by kernel_rfl) ?_ _
    go_wp2_with fail
    go_meet
    case rel =>
     exact ⟨a5, c5, rfl, rp, hHeld⟩
 case rest =>
 obtain ⟨aq, cq, rfl, hQA, y1⟩ := hcut
 replace gB := gB.ext y1
 replace hA := hA.ext y1
 replace z1 := z1.trans y1
 clear b0 b1 y1 hLL hck kc kl kle kce ht1 ht2 hk hkl hPP hb hBB
 obtain ⟨b0, b1⟩ := gB.cells
 have hLLn : LL.length = l.length := hpm.out.length_eq
 have hLL40 : LL.length ≤ 40 := by omega
 have hLL0 : 0 < LL.length := by omega
 have hyp : (LL.map FamD.y).Perm (l.map FamD.y) := hpm.out.map _
 have hsrt := GB.sort hyp
 have hs2 : ∀ L1 : List FamD, L1.map FamD.y = l.map FamD.y → (∀ f ∈ L1, f.y.Sm) ∧ L1.length ≤ 40 := fun L1 e => by
  refine ⟨fun f hf => ?_, ?_⟩
  ·have h1 : f.y ∈ L1.map FamD.y := List.mem_map_of_mem hf
   rw [e] at h1
   obtain ⟨q, hq, e2⟩ := List.mem_map.1 h1
   rw [← e2]
   exact hs q hq
  ·have := congrArg List.length e
   simp only [List.length_map] at this
   omega
 replace hs2 := Lib.hid hs2
 replace hLLn := Lib.hid hLLn
 replace hsrt := Lib.hid hsrt
 replace hyp := Lib.hid hyp
 have OF := batOf_any tn aq cq LL wc (by omega) (by omega) hQA hLLs
 go_wp2_with fail
 (with_reducible refine OF.mono ?_)
 rintro e w4 ⟨hst, y1⟩
 obtain ⟨a1, c1, L1, hL1, rfl, hF1, _⟩ := hst.good hsrt.out hr.out
 replace hL1 := Lib.hid hL1
 replace gB := gB.ext y1
 replace hA := hA.ext y1
 replace hQA := hQA.ext y1
 replace z1 := z1.trans y1
 clear b0 b1 y1 OF hst
 have xa := (Ext.refl w4).alloc (.cells #[.string tn, .slice a1 L1.length c1] 27)
 have gX : BatIn w4.heap.size tn (.slice a1 L1.length c1) (w4.alloc (.cells #[.string tn, .slice a1 L1.length c1] 27)) := heap_last _ _
 replace gB := gB.ext xa
 obtain ⟨b0, b1⟩ := gB.cells
 have SO := fun W (x : Ext w4 W) => batSort_any tn aq cq LL W (by omega) (hQA.ext x) hLLs
 go_wp2_with fail
 (with_reducible refine (SO _ xa).mono ?_)
 rintro e w5 ⟨hst, y1⟩
 obtain ⟨a3, c3, L3, hL3, rfl, hF3⟩ : ∃ a3 c3 L3, L3.map FamD.y = l.map FamD.y ∧ e = .returned (.tuple #[.agg #[.string tn, .slice a3 L3.length c3], .bool true]) ∧ FamsA a3 L3 w5 := by
  rcases hst with ⟨v, L, h1, h2, h3⟩ | ⟨h1, _⟩
  ·obtain ⟨a, c, rfl, h4⟩ := h3.fams
   rw [hsrt.out] at h1
   injection h1 with h1
   exact ⟨a, c, L, h1.symm, h2, h4⟩
  ·rw [hsrt.out] at h1; cases h1
 replace hL3 := Lib.hid hL3
 clear b0 b1 SO hst
 replace gB := gB.ext y1
 replace gX := gX.ext y1
 replace hA := hA.ext (xa.trans y1)
 replace hQA := hQA.ext (xa.trans y1)
 replace hF1 := hF1.ext (xa.trans y1)
 replace z1 := z1.trans (xa.trans y1)
 clear xa y1
 have xa := (Ext.refl w5).alloc (.cells #[.string tn, .slice a3 L3.length c3] 27)
 have gY : BatIn w5.heap.size tn (.slice a3 L3.length c3) (w5.alloc (.cells #[.string tn, .slice a3 L3.length c3] 27)) := heap_last _ _
 replace gB := gB.ext xa
 replace gX := gX.ext xa
 replace hA := hA.ext xa
 replace hQA := hQA.ext xa
 replace hF1 := hF1.ext xa
 replace hF3 := hF3.ext xa
 replace z1 := z1.trans xa
 clear xa
 obtain ⟨qb, qo, hqe, hqb, hqq⟩ := hQA.1 hLL0
 subst hqe
 have q0 := (hqq 0 hLL0).1
 rw [Nat.zero_mul, Nat.add_zero] at q0
 have hmem0 : LL[0].y ∈ LL.map FamD.y := List.mem_map_of_mem (List.getElem_mem hLL0)
 have hzs : LL[0].nm.size ≤ 1000 := (hLLs _ (List.getElem_mem hLL0)).n
 have hnone0 := sortB_twice GB hyp.out LL[0].y hmem0
 rw [show LL[0].y.nm = LL[0].nm from rfl] at hnone0
 generalize LL[0].nm = zn at *
 clear hmem0 hqq
 obtain ⟨b0, b1⟩ := gB.cells
 have hl0 : (0 : Int) < (LL.length : Int) := by omega
 go_upto_region 9 with fail
 obtain ⟨WW, hWW⟩ : ∃ WW, w5.alloc (.cells #[.string tn, .slice a3 L3.length c3] 27) = WW := ⟨_, rfl⟩
 rw [hWW] at gB gX gY hA hQA hF1 hF3 z1 b0 b1 q0 hqb ⊢
 clear hWW
 have hBB : B < WW.heap.size := gB.lt
 obtain ⟨LQ, hLQ⟩ : ∃ LQ, LL = LQ := ⟨_, rfl⟩
 subst hLQ
 obtain ⟨LM, hLM⟩ : ∃ LM, LL ++ [fzD zn] = LM := ⟨_, rfl⟩
 have hLMs : ∀ f ∈ LM, f.y.Sm := fun f hf => by
  rw [← hLM] at hf
  rcases List.mem_append.1 hf with hf | hf
  ·exact hLLs f hf
  ·rw [List.mem_singleton] at hf
   rw [hf]
   exact fzD_sm zn hzs
 have hLM1 : LM.length ≤ 1000 := by rw [← hLM, List.length_append, List.length_singleton]; omega
 have hnone : ∀ N, sortB (LM.map FamD.y) = some N → checkB tn N ≠ 0 := fun N hN => by
  rw [← hLM, List.map_append, List.map_singleton, hnone0] at hN
  cases hN
 clear hnone0
 replace hLM := Lib.hid hLM
 go_cut [11, 12] (fun s t wx => ∃ nb : Nat, s = .pointer (some ⟨nb, 0, none⟩) ∧ t = .bool false ∧ Ext WW wx)
 case first =>
  refine wp_region_held_drew (S := Ext WW) (by kernel_rfl) ((Ext.refl WW).drew) (fun hHeld => ?_)
  refine tk (i := 0) rfl (by kernel_rfl) (fun _ _ _ h => h) rfl (fun w9 hSw => by go_simp; (try with_reducible rfl)) hHeld ?_
  try simp only [Act.put, aT, aZ, aS]
  refine tk (i := 1) rfl (by kernel_rfl) (fun _ _ _ h => h) rfl (fun w9 hSw => by replace b0 := (Ext.cell hSw hBB).trans b0; replace b1 := (Ext.cell hSw hBB).trans b1; go_simp; (try with_reducible rfl)) hHeld ?_
  try simp only [Act.put, aT, aZ, aS]
  refine tk (i := 2) rfl (by kernel_rfl) (fun _ _ _ h => h) rfl (fun w9 hSw => by go_simp; (try with_reducible rfl)) hHeld ?_
  try simp only [Act.put, aT, aZ, aS]
  refine tk (i := 4) rfl (by kernel_rfl) (fun _ _ _ h => h) rfl (fun w9 hSw => by go_simp; (try with_reducible rfl)) hHeld ?_
  try simp only [Act.put, aT, aZ, aS]
  refine tk (i := 5) rfl (by kernel_rfl) (fun _ _ _ h => h) rfl (fun w9 hSw => by go_simp; (try with_reducible rfl)) hHeld ?_
  try simp only [Act.put, aT, aZ, aS]
  refine tk (i := 6) rfl (by kernel_rfl) (fun _ _ _ h => h) rfl (fun w9 hSw => by go_simp; (try with_reducible rfl)) hHeld ?_
  try simp only [Act.put, aT, aZ, aS]
  refine tk (i := 7) rfl (by kernel_rfl) (fun _ _ _ h => h) rfl (fun w9 hSw => by go_simp; (try with_reducible rfl)) hHeld ?_
  try simp only [Act.put, aT, aZ, aS]
  refine tk (i := 8) rfl (by kernel_rfl) (fun _ _ _ h => h) rfl (fun w9 hSw => by replace q0 := (Ext.cell hSw hqb).trans q0; go_simp; (try with_reducible rfl)) hHeld ?_
  try simp only [Act.put, aT, aZ, aS]
  refine tk (i := 9) rfl (by kernel_rfl) (fun _ _ _ h => h) rfl (fun w9 hSw => by go_simp; (try with_reducible rfl)) hHeld ?_
  try simp only [Act.put, aT, aZ, aS]
  refine tk (i := 10) rfl (by kernel_rfl) (fun _ _ _ h => h) rfl (fun w9 hSw => by go_simp; (try with_reducible rfl)) hHeld ?_
  try simp only [Act.put, aT, aZ, aS]
  obtain ⟨w0, hw0⟩ : ∃ x, WW.drew = x := ⟨_, rfl⟩
  rw [hw0] at hHeld ⊢
  clear hw0
  refine wpAnyH_ready (rs := [3, 11, 17]) (by kernel_rfl) (by simp) (AllReadyH.cons (o := ?om422A1) ?im422A1 (fun K hK => ?km422A1) (AllReadyH.cons (o := ?om422BS) ?im422BS (fun K hK => ?km422BS) (AllReadyH.cons (o := ?om422AL) ?im422AL (fun K hK => ?km422AL) AllReadyH.nil)))
  case im422A1 => simp only [List.getElem?_toArray, List.getElem?_cons_succ, List.getElem?_cons_zero]; rfl
  case im422BS => simp only [List.getElem?_toArray, List.getElem?_cons_succ, List.getElem?_cons_zero]; rfl
  case im422AL => simp only [List.getElem?_toArray, List.getElem?_cons_succ, List.getElem?_cons_zero]; rfl
  case km422A1 =>
   rw [if_pos (by rfl)]
   have hbW : WW.heap.size ≤ w0.heap.size := hHeld.size
   obtain ⟨v1, wA, ea, ra, xa⟩ := app_nil tyFam (fun _ => rfl) famC_one (by decide) w0 25 FamD.zero ⟨qb, qo, none⟩ LL LL.length cq (FamsA.src (hQA.ext hHeld)) (by first | rfl | rw [List.length_drop]) (by omega) (by omega) (by omega)
   refine Lib.wp_append_run _ _ _ _ _ rfl _ _ rfl rfl v1 wA ea (hK.out _ _ (hHeld.trans xa) (fun hHeld => ?_))
   clear hK K ea
   try simp only [aT, aZ, aS]
   have hba : w0.heap.size ≤ wA.heap.size := xa.size
   refine wpAnyH_ready (rs := [11, 17]) (by kernel_rfl) (by simp) (AllReadyH.cons (o := ?om423BS) ?im423BS (fun K hK => ?km423BS) (AllReadyH.cons (o := ?om423AL) ?im423AL (fun K hK => ?km423AL) AllReadyH.nil))
   case im423BS => simp only [List.getElem?_toArray, List.getElem?_cons_succ, List.getElem?_cons_zero]; rfl
   case im423AL => simp only [List.getElem?_toArray, List.getElem?_cons_succ, List.getElem?_cons_zero]; rfl
   case km423BS =>
    rw [if_pos (by rfl)]
    go_simp
    refine hK.out _ _ (hHeld.alloc _) (fun hHeld => ?_)
    clear hK K
    try simp only [aT, aZ, aS]
    obtain ⟨wS, hwS⟩ : ∃ x, wA.alloc (.cells #[.string zn, .int .i64 0, .string ⟨#[]⟩, .string ⟨#[]⟩, .slice none 0 0] 35) = x := ⟨_, rfl⟩
    have xs : Ext wA wS := by rw [← hwS]; exact (Ext.refl _).alloc _
    have rs : FamsA (some ⟨wA.heap.size, 0, none⟩) [fzD zn] wS := by rw [← hwS]; exact FamsA.one0 (heap_last _ _)
    rw [hwS] at hHeld ⊢
    clear hwS
    replace ra := ra.ext xs
    replace hba := Nat.le_trans hba xs.size
    refine wpAnyH_ready (rs := [12, 17]) (by kernel_rfl) (by simp) (AllReadyH.cons (o := ?om424A2) ?im424A2 (fun K hK => ?km424A2) (AllReadyH.cons (o := ?om424AL) ?im424AL (fun K hK => ?km424AL) AllReadyH.nil))
    case im424A2 => simp only [List.getElem?_toArray, List.getElem?_cons_succ, List.getElem?_cons_zero]; rfl
    case im424AL => simp only [List.getElem?_toArray, List.getElem?_cons_succ, List.getElem?_cons_zero]; rfl
    case km424A2 =>
     rw [if_pos (by rfl)]
     obtain ⟨v2, wB, eb, rb, gb, _⟩ := app_row tyFam (fun _ => rfl) famC_one (by decide) wS 25 FamD.zero w0.heap.size LL.length v1 LL ra (by first | rfl | rw [List.length_drop]) (by omega) hba ⟨wA.heap.size, 0, none⟩ [fzD zn] 1 1 (FamsA.src (rs)) (by first | rfl | (rw [List.length_take]; omega)) (by omega) (by omega)
     have xb : Ext WW wB := grown_ext' hHeld gb (Nat.le_refl _) (fun g hg => by have := (ra.lt g hg).1; omega)
     refine Lib.wp_append_run _ _ _ _ _ rfl _ _ rfl rfl v2 wB eb (hK.out _ _ xb (fun hHeld => ?_))
     clear hK K eb
     try simp only [aT, aZ, aS]
     obtain ⟨a5, c5, hv5, rp⟩ := rb.fams (by (simp only [List.length_append, List.length_drop, List.length_take, List.length_singleton]) <;> omega) (fun f hf => (List.mem_append.1 hf).elim (fun hf => (hQA.2 f hf).ext xb) (fun hf => by rw [List.mem_singleton] at hf; rw [hf]; exact ⟨fun h => absurd h (by simp [fzD]), by intro p hp; simp [fzD] at hp⟩))
     rw [hLM.out] at hv5 rp
     subst hv5
     clear rb
     clear gb ra hba
     refine wpAnyH_ready (rs := [13, 17]) (by kernel_rfl) (by simp) (AllReadyH.cons (o := ?om425C) ?im425C (fun K hK => ?km425C) (AllReadyH.cons (o := ?om425AL) ?im425AL (fun K hK => ?km425AL) AllReadyH.nil))
     case im425C => simp only [List.getElem?_toArray, List.getElem?_cons_succ, List.getElem?_cons_zero]; rfl
     case im425AL => simp only [List.getElem?_toArray, List.getElem?_cons_succ, List.getElem?_cons_zero]; rfl
     case km425C =>
      rw [if_pos (by rfl)]
      go_simp
      have CS := fun W (x : Ext wB W) => batOf_any tn a5 c5 LM W hLM1 (by omega) (rp.ext x) hLMs
      go_at_call 18
      (with_reducible refine (CS _ (Ext.refl _)).mono ?_)
      rintro e wC ⟨hst, xc⟩
      obtain rfl := hst.bad hnone
      refine hK.out _ _ (hHeld.trans xc) (fun hHeld => ?_)
      clear hK K CS hst rp
      try simp only [aT, aZ, aS]
      refine tk (i := 14) rfl (by kernel_rfl) (fun _ _ _ h => h) rfl (fun w9 hSw => by go_simp; (try with_reducible rfl)) hHeld ?_
      try simp only [Act.put, aT, aZ, aS]
      refine tk (i := 15) rfl (by kernel_rfl) (fun _ _ _ h => h) rfl (fun w9 hSw => by go_simp; (try with_reducible rfl)) hHeld ?_
      try simp only [Act.put, aT, aZ, aS]
      refine tk (i := 16) rfl (by kernel_rfl) (fun _ _ _ h => h) rfl (fun w9 hSw => by go_simp; (try with_reducible rfl)) hHeld ?_
      try simp only [Act.put, aT, aZ, aS]
      refine wpAnyH_ready (rs := [17]) (by kernel_rfl) (by simp) (AllReadyH.cons (o := ?om429AL) ?im429AL (fun K hK => ?km429AL) AllReadyH.nil)
      case im429AL => simp only [List.getElem?_toArray, List.getElem?_cons_succ, List.getElem?_cons_zero]; rfl
      case km429AL =>
       rw [if_pos (by rfl)]
       go_simp
       have hnW : WW.heap.size ≤ wC.heap.size := hHeld.size
       refine hK.out _ _ (hHeld.alloc _) (fun hHeld => ?_)
       clear hK K
       try simp only [aT, aZ, aS]
       obtain ⟨wN, hwN⟩ : ∃ x, wC.alloc (.cells #[.string ⟨#[]⟩, .slice none 0 0] 27) = x := ⟨_, rfl⟩
       have xn : Ext wC wN := by rw [← hwN]; exact (Ext.refl _).alloc _
       have al : BatIn wC.heap.size ⟨#[]⟩ (.slice none 0 0) wN := by rw [← hwN]; exact heap_last _ _
       rw [hwN] at hHeld ⊢
       clear hwN
       refine wpAnyH_ready (rs := [18]) (by kernel_rfl) (by simp) (AllReadyH.cons (o := ?om430ST) ?im430ST (fun K hK => ?km430ST) AllReadyH.nil)
       case im430ST => simp only [List.getElem?_toArray, List.getElem?_cons_succ, List.getElem?_cons_zero]; rfl
       case km430ST =>
        rw [if_pos (by rfl)]
        obtain ⟨d0, d1⟩ := al.cells
        have fr := fun o => al.free o
        go_simp
        refine hK.out _ _ ((hHeld.setC wC.heap.size 0 _ hnW).setC wC.heap.size 1 _ hnW) (fun hHeld => ?_)
        clear hK K fr d0 d1 al
        try simp only [aT, aZ, aS]
        refine tk (i := 19) rfl (by kernel_rfl) (fun _ _ _ h => h) rfl (fun w9 hSw => by go_simp; (try with_reducible rfl)) hHeld ?_
        try simp only [Act.put, aT, aZ, aS]
        refine wpAnyH_done (by kernel_rfl) ?_ _
        go_wp2_with fail
        go_meet
        case rel =>
         exact ⟨_, rfl, rfl, hHeld⟩
     case km425AL =>
      rw [if_pos (by rfl)]
      go_simp
      have hnW : WW.heap.size ≤ wB.heap.size := hHeld.size
      refine hK.out _ _ (hHeld.alloc _) (fun hHeld => ?_)
      clear hK K
      try simp only [aT, aZ, aS]
      obtain ⟨wN, hwN⟩ : ∃ x, wB.alloc (.cells #[.string ⟨#[]⟩, .slice none 0 0] 27) = x := ⟨_, rfl⟩
      have xn : Ext wB wN := by rw [← hwN]; exact (Ext.refl _).alloc _
      have al : BatIn wB.heap.size ⟨#[]⟩ (.slice none 0 0) wN := by rw [← hwN]; exact heap_last _ _
      rw [hwN] at hHeld ⊢
      clear hwN
      replace rp := rp.ext xn
      refine wpAnyH_ready (rs := [13]) (by kernel_rfl) (by simp) (AllReadyH.cons (o := ?om432C) ?im432C (fun K hK => ?km432C) AllReadyH.nil)
      case im432C => simp only [List.getElem?_toArray, List.getElem?_cons_succ, List.getElem?_cons_zero]; rfl
      case km432C =>
       rw [if_pos (by rfl)]
       go_simp
       have CS := fun W (x : Ext wN W) => batOf_any tn a5 c5 LM W hLM1 (by omega) (rp.ext x) hLMs
       go_at_call 18
       (with_reducible refine (CS _ (Ext.refl _)).mono ?_)
       rintro e wC ⟨hst, xc⟩
       obtain rfl := hst.bad hnone
       refine hK.out _ _ (hHeld.trans xc) (fun hHeld => ?_)
       clear hK K CS hst rp
       try simp only [aT, aZ, aS]
       replace al := al.ext xc
       refine tk (i := 14) rfl (by kernel_rfl) (fun _ _ _ h => h) rfl (fun w9 hSw => by go_simp; (try with_reducible rfl)) hHeld ?_
       try simp only [Act.put, aT, aZ, aS]
       refine tk (i := 15) rfl (by kernel_rfl) (fun _ _ _ h => h) rfl (fun w9 hSw => by go_simp; (try with_reducible rfl)) hHeld ?_
       try simp only [Act.put, aT, aZ, aS]
       refine tk (i := 16) rfl (by kernel_rfl) (fun _ _ _ h => h) rfl (fun w9 hSw => by go_simp; (try with_reducible rfl)) hHeld ?_
       try simp only [Act.put, aT, aZ, aS]
       refine wpAnyH_ready (rs := [18]) (by kernel_rfl) (by simp) (AllReadyH.cons (o := ?om436ST) ?im436ST (fun K hK => ?km436ST) AllReadyH.nil)
       case im436ST => simp only [List.getElem?_toArray, List.getElem?_cons_succ, List.getElem?_cons_zero]; rfl
       case km436ST =>
        rw [if_pos (by rfl)]
        obtain ⟨d0, d1⟩ := al.cells
        have fr := fun o => al.free o
        go_simp
        refine hK.out _ _ ((hHeld.setC wB.heap.size 0 _ hnW).setC wB.heap.size 1 _ hnW) (fun hHeld => ?_)
        clear hK K fr d0 d1 al
        try simp only [aT, aZ, aS]
        refine tk (i := 19) rfl (by kernel_rfl) (fun _ _ _ h => h) rfl (fun w9 hSw => by go_simp; (try with_reducible rfl)) hHeld ?_
        try simp only [Act.put, aT, aZ, aS]
        refine wpAnyH_done (by kernel_rfl) ?_ _
        go_wp2_with fail
        go_meet
        case rel =>
         exact ⟨_, rfl, rfl, hHeld⟩
    case km424AL =>
     rw [if_pos (by rfl)]
     go_simp
     have hnW : WW.heap.size ≤ wS.heap.size := hHeld.size
     refine hK.out _ _ (hHeld.alloc _) (fun hHeld => ?_)
     clear hK K
     try simp only [aT, aZ, aS]
     obtain ⟨wN, hwN⟩ : ∃ x, wS.alloc (.cells #[.string ⟨#[]⟩, .slice none 0 0] 27) = x := ⟨_, rfl⟩
     have xn : Ext wS wN := by rw [← hwN]; exact (Ext.refl _).alloc _
     have al : BatIn wS.heap.size ⟨#[]⟩ (.slice none 0 0) wN := by rw [← hwN]; exact heap_last _ _
     rw [hwN] at hHeld ⊢
     clear hwN
     have nv : ∀ g, v1.ownBlock = some g → wS.heap.size ≠ g := fun g hg => by have := (ra.lt g hg).2; omega
     replace ra := ra.ext xn
     replace hba := Nat.le_trans hba xn.size
     replace rs := rs.ext xn
     refine wpAnyH_ready (rs := [12]) (by kernel_rfl) (by simp) (AllReadyH.cons (o := ?om438A2) ?im438A2 (fun K hK => ?km438A2) AllReadyH.nil)
     case im438A2 => simp only [List.getElem?_toArray, List.getElem?_cons_succ, List.getElem?_cons_zero]; rfl
     case km438A2 =>
      rw [if_pos (by rfl)]
      obtain ⟨v2, wB, eb, rb, gb, _⟩ := app_row tyFam (fun _ => rfl) famC_one (by decide) wN 25 FamD.zero w0.heap.size LL.length v1 LL ra (by first | rfl | rw [List.length_drop]) (by omega) hba ⟨wA.heap.size, 0, none⟩ [fzD zn] 1 1 (FamsA.src (rs)) (by first | rfl | (rw [List.length_take]; omega)) (by omega) (by omega)
      have xb : Ext WW wB := grown_ext' hHeld gb (Nat.le_refl _) (fun g hg => by have := (ra.lt g hg).1; omega)
      refine Lib.wp_append_run _ _ _ _ _ rfl _ _ rfl rfl v2 wB eb (hK.out _ _ xb (fun hHeld => ?_))
      clear hK K eb
      try simp only [aT, aZ, aS]
      obtain ⟨a5, c5, hv5, rp⟩ := rb.fams (by (simp only [List.length_append, List.length_drop, List.length_take, List.length_singleton]) <;> omega) (fun f hf => (List.mem_append.1 hf).elim (fun hf => (hQA.2 f hf).ext xb) (fun hf => by rw [List.mem_singleton] at hf; rw [hf]; exact ⟨fun h => absurd h (by simp [fzD]), by intro p hp; simp [fzD] at hp⟩))
      rw [hLM.out] at hv5 rp
      subst hv5
      clear rb
      replace al := al.grown gb (fun g hg => nv g hg)
      clear nv
      clear gb ra hba
      refine wpAnyH_ready (rs := [13]) (by kernel_rfl) (by simp) (AllReadyH.cons (o := ?om439C) ?im439C (fun K hK => ?km439C) AllReadyH.nil)
      case im439C => simp only [List.getElem?_toArray, List.getElem?_cons_succ, List.getElem?_cons_zero]; rfl
      case km439C =>
       rw [if_pos (by rfl)]
       go_simp
       have CS := fun W (x : Ext wB W) => batOf_any tn a5 c5 LM W hLM1 (by omega) (rp.ext x) hLMs
       go_at_call 18
       (with_reducible refine (CS _ (Ext.refl _)).mono ?_)
       rintro e wC ⟨hst, xc⟩
       obtain rfl := hst.bad hnone
       refine hK.out _ _ (hHeld.trans xc) (fun hHeld => ?_)
       clear hK K CS hst rp
       try simp only [aT, aZ, aS]
       replace al := al.ext xc
       refine tk (i := 14) rfl (by kernel_rfl) (fun _ _ _ h => h) rfl (fun w9 hSw => by go_simp; (try with_reducible rfl)) hHeld ?_
       try simp only [Act.put, aT, aZ, aS]
       refine tk (i := 15) rfl (by kernel_rfl) (fun _ _ _ h => h) rfl (fun w9 hSw => by go_simp; (try with_reducible rfl)) hHeld ?_
       try simp only [Act.put, aT, aZ, aS]
       refine tk (i := 16) rfl (by kernel_rfl) (fun _ _ _ h => h) rfl (fun w9 hSw => by go_simp; (try with_reducible rfl)) hHeld ?_
       try simp only [Act.put, aT, aZ, aS]
       refine wpAnyH_ready (rs := [18]) (by kernel_rfl) (by simp) (AllReadyH.cons (o := ?om443ST) ?im443ST (fun K hK => ?km443ST) AllReadyH.nil)
       case im443ST => simp only [List.getElem?_toArray, List.getElem?_cons_succ, List.getElem?_cons_zero]; rfl
       case km443ST =>
        rw [if_pos (by rfl)]
        obtain ⟨d0, d1⟩ := al.cells
        have fr := fun o => al.free o
        go_simp
        refine hK.out _ _ ((hHeld.setC wS.heap.size 0 _ hnW).setC wS.heap.size 1 _ hnW) (fun hHeld => ?_)
        clear hK K fr d0 d1 al
        try simp only [aT, aZ, aS]
        refine tk (i := 19) rfl (by kernel_rfl) (fun _ _ _ h => h) rfl (fun w9 hSw => by go_simp; (try with_reducible rfl)) hHeld ?_
        try simp only [Act.put, aT, aZ, aS]
        refine wpAnyH_done (by kernel_rfl) ?_ _
        go_wp2_with fail
        go_meet
        case rel =>
         exact ⟨_, rfl, rfl, hHeld⟩
   case km423AL =>
    rw [if_pos (by rfl)]
    go_simp
    have hnW : WW.heap.size ≤ wA.heap.size := hHeld.size
    refine hK.out _ _ (hHeld.alloc _) (fun hHeld => ?_)
    clear hK K
    try simp only [aT, aZ, aS]
    obtain ⟨wN, hwN⟩ : ∃ x, wA.alloc (.cells #[.string ⟨#[]⟩, .slice none 0 0] 27) = x := ⟨_, rfl⟩
    have xn : Ext wA wN := by rw [← hwN]; exact (Ext.refl _).alloc _
    have al : BatIn wA.heap.size ⟨#[]⟩ (.slice none 0 0) wN := by rw [← hwN]; exact heap_last _ _
    rw [hwN] at hHeld ⊢
    clear hwN
    have nv : ∀ g, v1.ownBlock = some g → wA.heap.size ≠ g := fun g hg => by have := (ra.lt g hg).2; omega
    replace ra := ra.ext xn
    replace hba := Nat.le_trans hba xn.size
    refine wpAnyH_ready (rs := [11]) (by kernel_rfl) (by simp) (AllReadyH.cons (o := ?om445BS) ?im445BS (fun K hK => ?km445BS) AllReadyH.nil)
    case im445BS => simp only [List.getElem?_toArray, List.getElem?_cons_succ, List.getElem?_cons_zero]; rfl
    case km445BS =>
     rw [if_pos (by rfl)]
     go_simp
     refine hK.out _ _ (hHeld.alloc _) (fun hHeld => ?_)
     clear hK K
     try simp only [aT, aZ, aS]
     obtain ⟨wS, hwS⟩ : ∃ x, wN.alloc (.cells #[.string zn, .int .i64 0, .string ⟨#[]⟩, .string ⟨#[]⟩, .slice none 0 0] 35) = x := ⟨_, rfl⟩
     have xs : Ext wN wS := by rw [← hwS]; exact (Ext.refl _).alloc _
     have rs : FamsA (some ⟨wN.heap.size, 0, none⟩) [fzD zn] wS := by rw [← hwS]; exact FamsA.one0 (heap_last _ _)
     rw [hwS] at hHeld ⊢
     clear hwS
     replace al := al.ext xs
     replace ra := ra.ext xs
     replace hba := Nat.le_trans hba xs.size
     refine wpAnyH_ready (rs := [12]) (by kernel_rfl) (by simp) (AllReadyH.cons (o := ?om446A2) ?im446A2 (fun K hK => ?km446A2) AllReadyH.nil)
     case im446A2 => simp only [List.getElem?_toArray, List.getElem?_cons_succ, List.getElem?_cons_zero]; rfl
     case km446A2 =>
      rw [if_pos (by rfl)]
      obtain ⟨v2, wB, eb, rb, gb, _⟩ := app_row tyFam (fun _ => rfl) famC_one (by decide) wS 25 FamD.zero w0.heap.size LL.length v1 LL ra (by first | rfl | rw [List.length_drop]) (by omega) hba ⟨wN.heap.size, 0, none⟩ [fzD zn] 1 1 (FamsA.src (rs)) (by first | rfl | (rw [List.length_take]; omega)) (by omega) (by omega)
      have xb : Ext WW wB := grown_ext' hHeld gb (Nat.le_refl _) (fun g hg => by have := (ra.lt g hg).1; omega)
      refine Lib.wp_append_run _ _ _ _ _ rfl _ _ rfl rfl v2 wB eb (hK.out _ _ xb (fun hHeld => ?_))
      clear hK K eb
      try simp only [aT, aZ, aS]
      obtain ⟨a5, c5, hv5, rp⟩ := rb.fams (by (simp only [List.length_append, List.length_drop, List.length_take, List.length_singleton]) <;> omega) (fun f hf => (List.mem_append.1 hf).elim (fun hf => (hQA.2 f hf).ext xb) (fun hf => by rw [List.mem_singleton] at hf; rw [hf]; exact ⟨fun h => absurd h (by simp [fzD]), by intro p hp; simp [fzD] at hp⟩))
      rw [hLM.out] at hv5 rp
      subst hv5
      clear rb
      replace al := al.grown gb (fun g hg => nv g hg)
      clear nv
      clear gb ra hba
      refine wpAnyH_ready (rs := [13]) (by kernel_rfl) (by simp) (AllReadyH.cons (o := ?om447C) ?im447C (fun K hK => ?km447C) AllReadyH.nil)
      case im447C => simp only [List.getElem?_toArray, List.getElem?_cons_succ, List.getElem?_cons_zero]; rfl
      case km447C =>
       rw [if_pos (by rfl)]
       go_simp
       have CS := fun W (x : Ext wB W) => batOf_any tn a5 c5 LM W hLM1 (by omega) (rp.ext x) hLMs
       go_at_call 18
       (with_reducible refine (CS _ (Ext.refl _)).mono ?_)
       rintro e wC ⟨hst, xc⟩
       obtain rfl := hst.bad hnone
       refine hK.out _ _ (hHeld.trans xc) (fun hHeld => ?_)
       clear hK K CS hst rp
       try simp only [aT, aZ, aS]
       replace al := al.ext xc
       refine tk (i := 14) rfl (by kernel_rfl) (fun _ _ _ h => h) rfl (fun w9 hSw => by go_simp; (try with_reducible rfl)) hHeld ?_
       try simp only [Act.put, aT, aZ, aS]
       refine tk (i := 15) rfl (by kernel_rfl) (fun _ _ _ h => h) rfl (fun w9 hSw => by go_simp; (try with_reducible rfl)) hHeld ?_
       try simp only [Act.put, aT, aZ, aS]
       refine tk (i := 16) rfl (by kernel_rfl) (fun _ _ _ h => h) rfl (fun w9 hSw => by go_simp; (try with_reducible rfl)) hHeld ?_
       try simp only [Act.put, aT, aZ, aS]
       refine wpAnyH_ready (rs := [18]) (by kernel_rfl) (by simp) (AllReadyH.cons (o := ?om451ST) ?im451ST (fun K hK => ?km451ST) AllReadyH.nil)
       case im451ST => simp only [List.getElem?_toArray, List.getElem?_cons_succ, List.getElem?_cons_zero]; rfl
       case km451ST =>
        rw [if_pos (by rfl)]
        obtain ⟨d0, d1⟩ := al.cells
        have fr := fun o => al.free o
        go_simp
        refine hK.out _ _ ((hHeld.setC wA.heap.size 0 _ hnW).setC wA.heap.size 1 _ hnW) (fun hHeld => ?_)
        clear hK K fr d0 d1 al
        try simp only [aT, aZ, aS]
        refine tk (i := 19) rfl (by kernel_rfl) (fun _ _ _ h => h) rfl (fun w9 hSw => by go_simp; (try with_reducible rfl)) hHeld ?_
        try simp only [Act.put, aT, aZ, aS]
        refine wpAnyH_done (by kernel_rfl) ?_ _
        go_wp2_with fail
        go_meet
        case rel =>
         exact ⟨_, rfl, rfl, hHeld⟩
  case km422BS =>
   rw [if_pos (by rfl)]
   go_simp
   refine hK.out _ _ (hHeld.alloc _) (fun hHeld => ?_)
   clear hK K
   try simp only [aT, aZ, aS]
   obtain ⟨wS, hwS⟩ : ∃ x, w0.alloc (.cells #[.string zn, .int .i64 0, .string ⟨#[]⟩, .string ⟨#[]⟩, .slice none 0 0] 35) = x := ⟨_, rfl⟩
   have xs : Ext w0 wS := by rw [← hwS]; exact (Ext.refl _).alloc _
   have rs : FamsA (some ⟨w0.heap.size, 0, none⟩) [fzD zn] wS := by rw [← hwS]; exact FamsA.one0 (heap_last _ _)
   rw [hwS] at hHeld ⊢
   clear hwS
   refine wpAnyH_ready (rs := [3, 17]) (by kernel_rfl) (by simp) (AllReadyH.cons (o := ?om453A1) ?im453A1 (fun K hK => ?km453A1) (AllReadyH.cons (o := ?om453AL) ?im453AL (fun K hK => ?km453AL) AllReadyH.nil))
   case im453A1 => simp only [List.getElem?_toArray, List.getElem?_cons_succ, List.getElem?_cons_zero]; rfl
   case im453AL => simp only [List.getElem?_toArray, List.getElem?_cons_succ, List.getElem?_cons_zero]; rfl
   case km453A1 =>
    rw [if_pos (by rfl)]
    have hbW : WW.heap.size ≤ wS.heap.size := hHeld.size
    obtain ⟨v1, wA, ea, ra, xa⟩ := app_nil tyFam (fun _ => rfl) famC_one (by decide) wS 25 FamD.zero ⟨qb, qo, none⟩ LL LL.length cq (FamsA.src (hQA.ext hHeld)) (by first | rfl | rw [List.length_drop]) (by omega) (by omega) (by omega)
    refine Lib.wp_append_run _ _ _ _ _ rfl _ _ rfl rfl v1 wA ea (hK.out _ _ (hHeld.trans xa) (fun hHeld => ?_))
    clear hK K ea
    try simp only [aT, aZ, aS]
    have hba : wS.heap.size ≤ wA.heap.size := xa.size
    replace rs := rs.ext xa
    refine wpAnyH_ready (rs := [12, 17]) (by kernel_rfl) (by simp) (AllReadyH.cons (o := ?om454A2) ?im454A2 (fun K hK => ?km454A2) (AllReadyH.cons (o := ?om454AL) ?im454AL (fun K hK => ?km454AL) AllReadyH.nil))
    case im454A2 => simp only [List.getElem?_toArray, List.getElem?_cons_succ, List.getElem?_cons_zero]; rfl
    case im454AL => simp only [List.getElem?_toArray, List.getElem?_cons_succ, List.getElem?_cons_zero]; rfl
    case km454A2 =>
     rw [if_pos (by rfl)]
     obtain ⟨v2, wB, eb, rb, gb, _⟩ := app_row tyFam (fun _ => rfl) famC_one (by decide) wA 25 FamD.zero wS.heap.size LL.length v1 LL ra (by first | rfl | rw [List.length_drop]) (by omega) hba ⟨w0.heap.size, 0, none⟩ [fzD zn] 1 1 (FamsA.src (rs)) (by first | rfl | (rw [List.length_take]; omega)) (by omega) (by omega)
     have xb : Ext WW wB := grown_ext' hHeld gb (Nat.le_refl _) (fun g hg => by have := (ra.lt g hg).1; omega)
     refine Lib.wp_append_run _ _ _ _ _ rfl _ _ rfl rfl v2 wB eb (hK.out _ _ xb (fun hHeld => ?_))
     clear hK K eb
     try simp only [aT, aZ, aS]
     obtain ⟨a5, c5, hv5, rp⟩ := rb.fams (by (simp only [List.length_append, List.length_drop, List.length_take, List.length_singleton]) <;> omega) (fun f hf => (List.mem_append.1 hf).elim (fun hf => (hQA.2 f hf).ext xb) (fun hf => by rw [List.mem_singleton] at hf; rw [hf]; exact ⟨fun h => absurd h (by simp [fzD]), by intro p hp; simp [fzD] at hp⟩))
     rw [hLM.out] at hv5 rp
     subst hv5
     clear rb
     clear gb ra hba
     refine wpAnyH_ready (rs := [13, 17]) (by kernel_rfl) (by simp) (AllReadyH.cons (o := ?om455C) ?im455C (fun K hK => ?km455C) (AllReadyH.cons (o := ?om455AL) ?im455AL (fun K hK => ?km455AL) AllReadyH.nil))
     case im455C => simp only [List.getElem?_toArray, List.getElem?_cons_succ, List.getElem?_cons_zero]; rfl
     case im455AL => simp only [List.getElem?_toArray, List.getElem?_cons_succ, List.getElem?_cons_zero]; rfl
     case km455C =>
      rw [if_pos (by rfl)]
      go_simp
      have CS := fun W (x : Ext wB W) => batOf_any tn a5 c5 LM W hLM1 (by omega) (rp.ext x) hLMs
      go_at_call 18
      (with_reducible refine (CS _ (Ext.refl _)).mono ?_)
      rintro e wC ⟨hst, xc⟩
      obtain rfl := hst.bad hnone
      refine hK.out _ _ (hHeld.trans xc) (fun hHeld => ?_)
      clear hK K CS hst rp
      try simp only [aT, aZ, aS]
      refine tk (i := 14) rfl (by kernel_rfl) (fun _ _ _ h => h) rfl (fun w9 hSw => by go_simp; (try with_reducible rfl)) hHeld ?_
      try simp only [Act.put, aT, aZ, aS]
      refine tk (i := 15) rfl (by kernel_rfl) (fun _ _ _ h => h) rfl (fun w9 hSw => by go_simp; (try with_reducible rfl)) hHeld ?_
      try simp only [Act.put, aT, aZ, aS]
      refine tk (i := 16) rfl (by kernel_rfl) (fun _ _ _ h => h) rfl (fun w9 hSw => by go_simp; (try with_reducible rfl)) hHeld ?_
      try simp only [Act.put, aT, aZ, aS]
      refine wpAnyH_ready (rs := [17]) (by kernel_rfl) (by simp) (AllReadyH.cons (o := ?om459AL) ?im459AL (fun K hK => ?km459AL) AllReadyH.nil)
      case im459AL => simp only [List.getElem?_toArray, List.getElem?_cons_succ, List.getElem?_cons_zero]; rfl
      case km459AL =>
       rw [if_pos (by rfl)]
       go_simp
       have hnW : WW.heap.size ≤ wC.heap.size := hHeld.size
       refine hK.out _ _ (hHeld.alloc _) (fun hHeld => ?_)
       clear hK K
       try simp only [aT, aZ, aS]
       obtain ⟨wN, hwN⟩ : ∃ x, wC.alloc (.cells #[.string ⟨#[]⟩, .slice none 0 0] 27) = x := ⟨_, rfl⟩
       have xn : Ext wC wN := by rw [← hwN]; exact (Ext.refl _).alloc _
       have al : BatIn wC.heap.size ⟨#[]⟩ (.slice none 0 0) wN := by rw [← hwN]; exact heap_last _ _
       rw [hwN] at hHeld ⊢
       clear hwN
       refine wpAnyH_ready (rs := [18]) (by kernel_rfl) (by simp) (AllReadyH.cons (o := ?om460ST) ?im460ST (fun K hK => ?km460ST) AllReadyH.nil)
       case im460ST => simp only [List.getElem?_toArray, List.getElem?_cons_succ, List.getElem?_cons_zero]; rfl
       case km460ST =>
        rw [if_pos (by rfl)]
        obtain ⟨d0, d1⟩ := al.cells
        have fr := fun o => al.free o
        go_simp
        refine hK.out _ _ ((hHeld.setC wC.heap.size 0 _ hnW).setC wC.heap.size 1 _ hnW) (fun hHeld => ?_)
        clear hK K fr d0 d1 al
        try simp only [aT, aZ, aS]
        refine tk (i := 19) rfl (by kernel_rfl) (fun _ _ _ h => h) rfl (fun w9 hSw => by go_simp; (try with_reducible rfl)) hHeld ?_
        try simp only [Act.put, aT, aZ, aS]
        refine wpAnyH_done (by kernel_rfl) ?_ _
        go_wp2_with fail
        go_meet
        case rel =>
         exact ⟨_, rfl, rfl, hHeld⟩
     case km455AL =>
      rw [if_pos (by rfl)]
      go_simp
      have hnW : WW.heap.size ≤ wB.heap.size := hHeld.size
      refine hK.out _ _ (hHeld.alloc _) (fun hHeld => ?_)
      clear hK K
      try simp only [aT, aZ, aS]
      obtain ⟨wN, hwN⟩ : ∃ x, wB.alloc (.cells #[.string ⟨#[]⟩, .slice none 0 0] 27) = x := ⟨_, rfl⟩
      have xn : Ext wB wN := by rw [← hwN]; exact (Ext.refl _).alloc _
      have al : BatIn wB.heap.size ⟨#[]⟩ (.slice none 0 0) wN := by rw [← hwN]; exact heap_last _ _
      rw [hwN] at hHeld ⊢
      clear hwN
      replace rp := rp.ext xn
      refine wpAnyH_ready (rs := [13]) (by kernel_rfl) (by simp) (AllReadyH.cons (o := ?om462C) ?im462C (fun K hK => ?km462C) AllReadyH.nil)
      case im462C => simp only [List.getElem?_toArray, List.getElem?_cons_succ, List.getElem?_cons_zero]; rfl
      case km462C =>
       rw [if_pos (by rfl)]
       go_simp
       have CS := fun W (x : Ext wN W) => batOf_any tn a5 c5 LM W hLM1 (by omega) (rp.ext x) hLMs
       go_at_call 18
       (with_reducible refine (CS _ (Ext.refl _)).mono ?_)
       rintro e wC ⟨hst, xc⟩
       obtain rfl := hst.bad hnone
       refine hK.out _ _ (hHeld.trans xc) (fun hHeld => ?_)
       clear hK K CS hst rp
       try simp only [aT, aZ, aS]
       replace al := al.ext xc
       refine tk (i := 14) rfl (by kernel_rfl) (fun _ _ _ h => h) rfl (fun w9 hSw => by go_simp; (try with_reducible rfl)) hHeld ?_
       try simp only [Act.put, aT, aZ, aS]
       refine tk (i := 15) rfl (by kernel_rfl) (fun _ _ _ h => h) rfl (fun w9 hSw => by go_simp; (try with_reducible rfl)) hHeld ?_
       try simp only [Act.put, aT, aZ, aS]
       refine tk (i := 16) rfl (by kernel_rfl) (fun _ _ _ h => h) rfl (fun w9 hSw => by go_simp; (try with_reducible rfl)) hHeld ?_
       try simp only [Act.put, aT, aZ, aS]
       refine wpAnyH_ready (rs := [18]) (by kernel_rfl) (by simp) (AllReadyH.cons (o := ?om466ST) ?im466ST (fun K hK => ?km466ST) AllReadyH.nil)
       case im466ST => simp only [List.getElem?_toArray, List.getElem?_cons_succ, List.getElem?_cons_zero]; rfl
       case km466ST =>
        rw [if_pos (by rfl)]
        obtain ⟨d0, d1⟩ := al.cells
        have fr := fun o => al.free o
        go_simp
        refine hK.out _ _ ((hHeld.setC wB.heap.size 0 _ hnW).setC wB.heap.size 1 _ hnW) (fun hHeld => ?_)
        clear hK K fr d0 d1 al
        try simp only [aT, aZ, aS]
        refine tk (i := 19) rfl (by kernel_rfl) (fun _ _ _ h => h) rfl (fun w9 hSw => by go_simp; (try with_reducible rfl)) hHeld ?_
        try simp only [Act.put, aT, aZ, aS]
        refine wpAnyH_done (by kernel_rfl) ?_ _
        go_wp2_with fail
        go_meet
        case rel =>
         exact ⟨_, rfl, rfl, hHeld⟩
    case km454AL =>
     rw [if_pos (by rfl)]
     go_simp
     have hnW : WW.heap.size ≤ wA.heap.size := hHeld.size
     refine hK.out _ _ (hHeld.alloc _) (fun hHeld => ?_)
     clear hK K
     try simp only [aT, aZ, aS]
     obtain ⟨wN, hwN⟩ : ∃ x, wA.alloc (.cells #[.string ⟨#[]⟩, .slice none 0 0] 27) = x := ⟨_, rfl⟩
     have xn : Ext wA wN := by rw [← hwN]; exact (Ext.refl _).alloc _
     have al : BatIn wA.heap.size ⟨#[]⟩ (.slice none 0 0) wN := by rw [← hwN]; exact heap_last _ _
     rw [hwN] at hHeld ⊢
     clear hwN
     have nv : ∀ g, v1.ownBlock = some g → wA.heap.size ≠ g := fun g hg => by have := (ra.lt g hg).2; omega
     replace ra := ra.ext xn
     replace hba := Nat.le_trans hba xn.size
     replace rs := rs.ext xn
     refine wpAnyH_ready (rs := [12]) (by kernel_rfl) (by simp) (AllReadyH.cons (o := ?om468A2) ?im468A2 (fun K hK => ?km468A2) AllReadyH.nil)
     case im468A2 => simp only [List.getElem?_toArray, List.getElem?_cons_succ, List.getElem?_cons_zero]; rfl
     case km468A2 =>
      rw [if_pos (by rfl)]
      obtain ⟨v2, wB, eb, rb, gb, _⟩ := app_row tyFam (fun _ => rfl) famC_one (by decide) wN 25 FamD.zero wS.heap.size LL.length v1 LL ra (by first | rfl | rw [List.length_drop]) (by omega) hba ⟨w0.heap.size, 0, none⟩ [fzD zn] 1 1 (FamsA.src (rs)) (by first | rfl | (rw [List.length_take]; omega)) (by omega) (by omega)
      have xb : Ext WW wB := grown_ext' hHeld gb (Nat.le_refl _) (fun g hg => by have := (ra.lt g hg).1; omega)
      refine Lib.wp_append_run _ _ _ _ _ rfl _ _ rfl rfl v2 wB eb (hK.out _ _ xb (fun hHeld => ?_))
      clear hK K eb
      try simp only [aT, aZ, aS]
      obtain ⟨a5, c5, hv5, rp⟩ := rb.fams (by (simp only [List.length_append, List.length_drop, List.length_take, List.length_singleton]) <;> omega) (fun f hf => (List.mem_append.1 hf).elim (fun hf => (hQA.2 f hf).ext xb) (fun hf => by rw [List.mem_singleton] at hf; rw [hf]; exact ⟨fun h => absurd h (by simp [fzD]), by intro p hp; simp [fzD] at hp⟩))
      rw [hLM.out] at hv5 rp
      subst hv5
      clear rb
      replace al := al.grown gb (fun g hg => nv g hg)
      clear nv
      clear gb ra hba
      refine wpAnyH_ready (rs := [13]) (by kernel_rfl) (by simp) (AllReadyH.cons (o := ?om469C) ?im469C (fun K hK => ?km469C) AllReadyH.nil)
      case im469C => simp only [List.getElem?_toArray, List.getElem?_cons_succ, List.getElem?_cons_zero]; rfl
      case km469C =>
       rw [if_pos (by rfl)]
       go_simp
       have CS := fun W (x : Ext wB W) => batOf_any tn a5 c5 LM W hLM1 (by omega) (rp.ext x) hLMs
       go_at_call 18
       (with_reducible refine (CS _ (Ext.refl _)).mono ?_)
       rintro e wC ⟨hst, xc⟩
       obtain rfl := hst.bad hnone
       refine hK.out _ _ (hHeld.trans xc) (fun hHeld => ?_)
       clear hK K CS hst rp
       try simp only [aT, aZ, aS]
       replace al := al.ext xc
       refine tk (i := 14) rfl (by kernel_rfl) (fun _ _ _ h => h) rfl (fun w9 hSw => by go_simp; (try with_reducible rfl)) hHeld ?_
       try simp only [Act.put, aT, aZ, aS]
       refine tk (i := 15) rfl (by kernel_rfl) (fun _ _ _ h => h) rfl (fun w9 hSw => by go_simp; (try with_reducible rfl)) hHeld ?_
       try simp only [Act.put, aT, aZ, aS]
       refine tk (i := 16) rfl (by kernel_rfl) (fun _ _ _ h => h) rfl (fun w9 hSw => by go_simp; (try with_reducible rfl)) hHeld ?_
       try simp only [Act.put, aT, aZ, aS]
       refine wpAnyH_ready (rs := [18]) (by kernel_rfl) (by simp) (AllReadyH.cons (o := ?om473ST) ?im473ST (fun K hK => ?km473ST) AllReadyH.nil)
       case im473ST => simp only [List.getElem?_toArray, List.getElem?_cons_succ, List.getElem?_cons_zero]; rfl
       case km473ST =>
        rw [if_pos (by rfl)]
        obtain ⟨d0, d1⟩ := al.cells
        have fr := fun o => al.free o
        go_simp
        refine hK.out _ _ ((hHeld.setC wA.heap.size 0 _ hnW).setC wA.heap.size 1 _ hnW) (fun hHeld => ?_)
        clear hK K fr d0 d1 al
        try simp only [aT, aZ, aS]
        refine tk (i := 19) rfl (by kernel_rfl) (fun _ _ _ h => h) rfl (fun w9 hSw => by go_simp; (try with_reducible rfl)) hHeld ?_
        try simp only [Act.put, aT, aZ, aS]
        refine wpAnyH_done (by kernel_rfl) ?_ _
        go_wp2_with fail
        go_meet
        case rel =>
         exact ⟨_, rfl, rfl, hHeld⟩
   case km453AL =>
    rw [if_pos (by rfl)]
    go_simp
    have hnW : WW.heap.size ≤ wS.heap.size := hHeld.size
    refine hK.out _ _ (hHeld.alloc _) (fun hHeld => ?_)
    clear hK K
    try simp only [aT, aZ, aS]
    obtain ⟨wN, hwN⟩ : ∃ x, wS.alloc (.cells #[.string ⟨#[]⟩, .slice none 0 0] 27) = x := ⟨_, rfl⟩
    have xn : Ext wS wN := by rw [← hwN]; exact (Ext.refl _).alloc _
    have al : BatIn wS.heap.size ⟨#[]⟩ (.slice none 0 0) wN := by rw [← hwN]; exact heap_last _ _
    rw [hwN] at hHeld ⊢
    clear hwN
    replace rs := rs.ext xn
    refine wpAnyH_ready (rs := [3]) (by kernel_rfl) (by simp) (AllReadyH.cons (o := ?om475A1) ?im475A1 (fun K hK => ?km475A1) AllReadyH.nil)
    case im475A1 => simp only [List.getElem?_toArray, List.getElem?_cons_succ, List.getElem?_cons_zero]; rfl
    case km475A1 =>
     rw [if_pos (by rfl)]
     have hbW : WW.heap.size ≤ wN.heap.size := hHeld.size
     obtain ⟨v1, wA, ea, ra, xa⟩ := app_nil tyFam (fun _ => rfl) famC_one (by decide) wN 25 FamD.zero ⟨qb, qo, none⟩ LL LL.length cq (FamsA.src (hQA.ext hHeld)) (by first | rfl | rw [List.length_drop]) (by omega) (by omega) (by omega)
     refine Lib.wp_append_run _ _ _ _ _ rfl _ _ rfl rfl v1 wA ea (hK.out _ _ (hHeld.trans xa) (fun hHeld => ?_))
     clear hK K ea
     try simp only [aT, aZ, aS]
     have hba : wN.heap.size ≤ wA.heap.size := xa.size
     have hnl := al.lt
     have nv : ∀ g, v1.ownBlock = some g → wS.heap.size ≠ g := fun g hg => by have := (ra.lt g hg).1; omega
     replace al := al.ext xa
     replace rs := rs.ext xa
     refine wpAnyH_ready (rs := [12]) (by kernel_rfl) (by simp) (AllReadyH.cons (o := ?om476A2) ?im476A2 (fun K hK => ?km476A2) AllReadyH.nil)
     case im476A2 => simp only [List.getElem?_toArray, List.getElem?_cons_succ, List.getElem?_cons_zero]; rfl
     case km476A2 =>
      rw [if_pos (by rfl)]
      obtain ⟨v2, wB, eb, rb, gb, _⟩ := app_row tyFam (fun _ => rfl) famC_one (by decide) wA 25 FamD.zero wN.heap.size LL.length v1 LL ra (by first | rfl | rw [List.length_drop]) (by omega) hba ⟨w0.heap.size, 0, none⟩ [fzD zn] 1 1 (FamsA.src (rs)) (by first | rfl | (rw [List.length_take]; omega)) (by omega) (by omega)
      have xb : Ext WW wB := grown_ext' hHeld gb (Nat.le_refl _) (fun g hg => by have := (ra.lt g hg).1; omega)
      refine Lib.wp_append_run _ _ _ _ _ rfl _ _ rfl rfl v2 wB eb (hK.out _ _ xb (fun hHeld => ?_))
      clear hK K eb
      try simp only [aT, aZ, aS]
      obtain ⟨a5, c5, hv5, rp⟩ := rb.fams (by (simp only [List.length_append, List.length_drop, List.length_take, List.length_singleton]) <;> omega) (fun f hf => (List.mem_append.1 hf).elim (fun hf => (hQA.2 f hf).ext xb) (fun hf => by rw [List.mem_singleton] at hf; rw [hf]; exact ⟨fun h => absurd h (by simp [fzD]), by intro p hp; simp [fzD] at hp⟩))
      rw [hLM.out] at hv5 rp
      subst hv5
      clear rb
      replace al := al.grown gb (fun g hg => nv g hg)
      clear nv
      clear gb ra hba
      refine wpAnyH_ready (rs := [13]) (by kernel_rfl) (by simp) (AllReadyH.cons (o := ?om477C) ?im477C (fun K hK => ?km477C) AllReadyH.nil)
      case im477C => simp only [List.getElem?_toArray, List.getElem?_cons_succ, List.getElem?_cons_zero]; rfl
      case km477C =>
       rw [if_pos (by rfl)]
       go_simp
       have CS := fun W (x : Ext wB W) => batOf_any tn a5 c5 LM W hLM1 (by omega) (rp.ext x) hLMs
       go_at_call 18
       (with_reducible refine (CS _ (Ext.refl _)).mono ?_)
       rintro e wC ⟨hst, xc⟩
       obtain rfl := hst.bad hnone
       refine hK.out _ _ (hHeld.trans xc) (fun hHeld => ?_)
       clear hK K CS hst rp
       try simp only [aT, aZ, aS]
       replace al := al.ext xc
       refine tk (i := 14) rfl (by kernel_rfl) (fun _ _ _ h => h) rfl (fun w9 hSw => by go_simp; (try with_reducible rfl)) hHeld ?_
       try simp only [Act.put, aT, aZ, aS]
       refine tk (i := 15) rfl (by kernel_rfl) (fun _ _ _ h => h) rfl (fun w9 hSw => by go_simp; (try with_reducible rfl)) hHeld ?_
       try simp only [Act.put, aT, aZ, aS]
       refine tk (i := 16) rfl (by kernel_rfl) (fun _ _ _ h => h) rfl (fun w9 hSw => by go_simp; (try with_reducible rfl)) hHeld ?_
       try simp only [Act.put, aT, aZ, aS]
       refine wpAnyH_ready (rs := [18]) (by kernel_rfl) (by simp) (AllReadyH.cons (o := ?om481ST) ?im481ST (fun K hK => ?km481ST) AllReadyH.nil)
       case im481ST => simp only [List.getElem?_toArray, List.getElem?_cons_succ, List.getElem?_cons_zero]; rfl
       case km481ST =>
        rw [if_pos (by rfl)]
        obtain ⟨d0, d1⟩ := al.cells
        have fr := fun o => al.free o
        go_simp
        refine hK.out _ _ ((hHeld.setC wS.heap.size 0 _ hnW).setC wS.heap.size 1 _ hnW) (fun hHeld => ?_)
        clear hK K fr d0 d1 al
        try simp only [aT, aZ, aS]
        refine tk (i := 19) rfl (by kernel_rfl) (fun _ _ _ h => h) rfl (fun w9 hSw => by go_simp; (try with_reducible rfl)) hHeld ?_
        try simp only [Act.put, aT, aZ, aS]
        refine wpAnyH_done (by kernel_rfl) ?_ _
        go_wp2_with fail
        go_meet
        case rel =>
         exact ⟨_, rfl, rfl, hHeld⟩
  case km422AL =>
   rw [if_pos (by rfl)]
   go_simp
   have hnW : WW.heap.size ≤ w0.heap.size := hHeld.size
   refine hK.out _ _ (hHeld.alloc _) (fun hHeld => ?_)
   clear hK K
   try simp only [aT, aZ, aS]
   obtain ⟨wN, hwN⟩ : ∃ x, w0.alloc (.cells #[.string ⟨#[]⟩, .slice none 0 0] 27) = x := ⟨_, rfl⟩
   have xn : Ext w0 wN := by rw [← hwN]; exact (Ext.refl _).alloc _
   have al : BatIn w0.heap.size ⟨#[]⟩ (.slice none 0 0) wN := by rw [← hwN]; exact heap_last _ _
   rw [hwN] at hHeld ⊢
   clear hwN
   refine wpAnyH_ready (rs := [3, 11]) (by kernel_rfl) (by simp) (AllReadyH.cons (o := ?om483A1) ?im483A1 (fun K hK => ?km483A1) (AllReadyH.cons (o := ?om483BS) ?im483BS (fun K hK => ?km483BS) AllReadyH.nil))
   case im483A1 => simp only [List.getElem?_toArray, List.getElem?_cons_succ, List.getElem?_cons_zero]; rfl
   case im483BS => simp only [List.getElem?_toArray, List.getElem?_cons_succ, List.getElem?_cons_zero]; rfl
   case km483A1 =>
    rw [if_pos (by rfl)]
    have hbW : WW.heap.size ≤ wN.heap.size := hHeld.size
    obtain ⟨v1, wA, ea, ra, xa⟩ := app_nil tyFam (fun _ => rfl) famC_one (by decide) wN 25 FamD.zero ⟨qb, qo, none⟩ LL LL.length cq (FamsA.src (hQA.ext hHeld)) (by first | rfl | rw [List.length_drop]) (by omega) (by omega) (by omega)
    refine Lib.wp_append_run _ _ _ _ _ rfl _ _ rfl rfl v1 wA ea (hK.out _ _ (hHeld.trans xa) (fun hHeld => ?_))
    clear hK K ea
    try simp only [aT, aZ, aS]
    have hba : wN.heap.size ≤ wA.heap.size := xa.size
    have hnl := al.lt
    have nv : ∀ g, v1.ownBlock = some g → w0.heap.size ≠ g := fun g hg => by have := (ra.lt g hg).1; omega
    replace al := al.ext xa
    refine wpAnyH_ready (rs := [11]) (by kernel_rfl) (by simp) (AllReadyH.cons (o := ?om484BS) ?im484BS (fun K hK => ?km484BS) AllReadyH.nil)
    case im484BS => simp only [List.getElem?_toArray, List.getElem?_cons_succ, List.getElem?_cons_zero]; rfl
    case km484BS =>
     rw [if_pos (by rfl)]
     go_simp
     refine hK.out _ _ (hHeld.alloc _) (fun hHeld => ?_)
     clear hK K
     try simp only [aT, aZ, aS]
     obtain ⟨wS, hwS⟩ : ∃ x, wA.alloc (.cells #[.string zn, .int .i64 0, .string ⟨#[]⟩, .string ⟨#[]⟩, .slice none 0 0] 35) = x := ⟨_, rfl⟩
     have xs : Ext wA wS := by rw [← hwS]; exact (Ext.refl _).alloc _
     have rs : FamsA (some ⟨wA.heap.size, 0, none⟩) [fzD zn] wS := by rw [← hwS]; exact FamsA.one0 (heap_last _ _)
     rw [hwS] at hHeld ⊢
     clear hwS
     replace al := al.ext xs
     replace ra := ra.ext xs
     replace hba := Nat.le_trans hba xs.size
     refine wpAnyH_ready (rs := [12]) (by kernel_rfl) (by simp) (AllReadyH.cons (o := ?om485A2) ?im485A2 (fun K hK => ?km485A2) AllReadyH.nil)
     case im485A2 => simp only [List.getElem?_toArray, List.getElem?_cons_succ, List.getElem?_cons_zero]; rfl
     case km485A2 =>
      rw [if_pos (by rfl)]
      obtain ⟨v2, wB, eb, rb, gb, _⟩ := app_row tyFam (fun _ => rfl) famC_one (by decide) wS 25 FamD.zero wN.heap.size LL.length v1 LL ra (by first | rfl | rw [List.length_drop]) (by omega) hba ⟨wA.heap.size, 0, none⟩ [fzD zn] 1 1 (FamsA.src (rs)) (by first | rfl | (rw [List.length_take]; omega)) (by omega) (by omega)
      have xb : Ext WW wB := grown_ext' hHeld gb (Nat.le_refl _) (fun g hg => by have := (ra.lt g hg).1; omega)
      refine Lib.wp_append_run _ _ _ _ _ rfl _ _ rfl rfl v2 wB eb (hK.out _ _ xb (fun hHeld => ?_))
      clear hK K eb
      try simp only [aT, aZ, aS]
      obtain ⟨a5, c5, hv5, rp⟩ := rb.fams (by (simp only [List.length_append, List.length_drop, List.length_take, List.length_singleton]) <;> omega) (fun f hf => (List.mem_append.1 hf).elim (fun hf => (hQA.2 f hf).ext xb) (fun hf => by rw [List.mem_singleton] at hf; rw [hf]; exact ⟨fun h => absurd h (by simp [fzD]), by intro p hp; simp [fzD] at hp⟩))
      rw [hLM.out] at hv5 rp
      subst hv5
      clear rb
      replace al := al.grown gb (fun g hg => nv g hg)
      clear nv
      clear gb ra hba
      refine wpAnyH_ready (rs := [13]) (by kernel_rfl) (by simp) (AllReadyH.cons (o := ?om486C) ?im486C (fun K hK => ?km486C) AllReadyH.nil)
      case im486C => simp only [List.getElem?_toArray, List.getElem?_cons_succ, List.getElem?_cons_zero]; rfl
      case km486C =>
       rw [if_pos (by rfl)]
       go_simp
       have CS := fun W (x : Ext wB W) => batOf_any tn a5 c5 LM W hLM1 (by omega) (rp.ext x) hLMs
       go_at_call 18
       (with_reducible refine (CS _ (Ext.refl _)).mono ?_)
       rintro e wC ⟨hst, xc⟩
       obtain rfl := hst.bad hnone
       refine hK.out _ _ (hHeld.trans xc) (fun hHeld => ?_)
       clear hK K CS hst rp
       try simp only [aT, aZ, aS]
       replace al := al.ext xc
       refine tk (i := 14) rfl (by kernel_rfl) (fun _ _ _ h => h) rfl (fun w9 hSw => by go_simp; (try with_reducible rfl)) hHeld ?_
       try simp only [Act.put, aT, aZ, aS]
       refine tk (i := 15) rfl (by kernel_rfl) (fun _ _ _ h => h) rfl (fun w9 hSw => by go_simp; (try with_reducible rfl)) hHeld ?_
       try simp only [Act.put, aT, aZ, aS]
       refine tk (i := 16) rfl (by kernel_rfl) (fun _ _ _ h => h) rfl (fun w9 hSw => by go_simp; (try with_reducible rfl)) hHeld ?_
       try simp only [Act.put, aT, aZ, aS]
       refine wpAnyH_ready (rs := [18]) (by kernel_rfl) (by simp) (AllReadyH.cons (o := ?om490ST) ?im490ST (fun K hK => ?km490ST) AllReadyH.nil)
       case im490ST => simp only [List.getElem?_toArray, List.getElem?_cons_succ, List.getElem?_cons_zero]; rfl
       case km490ST =>
        rw [if_pos (by rfl)]
        obtain ⟨d0, d1⟩ := al.cells
        have fr := fun o => al.free o
        go_simp
        refine hK.out _ _ ((hHeld.setC w0.heap.size 0 _ hnW).setC w0.heap.size 1 _ hnW) (fun hHeld => ?_)
        clear hK K fr d0 d1 al
        try simp only [aT, aZ, aS]
        refine tk (i := 19) rfl (by kernel_rfl) (fun _ _ _ h => h) rfl (fun w9 hSw => by go_simp; (try with_reducible rfl)) hHeld ?_
        try simp only [Act.put, aT, aZ, aS]
        refine wpAnyH_done (by kernel_rfl) ?_ _
        go_wp2_with fail
        go_meet
        case rel =>
         exact ⟨_, rfl, rfl, hHeld⟩
   case km483BS =>
    rw [if_pos (by rfl)]
    go_simp
    refine hK.out _ _ (hHeld.alloc _) (fun hHeld => ?_)
    clear hK K
    try simp only [aT, aZ, aS]
    obtain ⟨wS, hwS⟩ : ∃ x, wN.alloc (.cells #[.string zn, .int .i64 0, .string ⟨#[]⟩, .string ⟨#[]⟩, .slice none 0 0] 35) = x := ⟨_, rfl⟩
    have xs : Ext wN wS := by rw [← hwS]; exact (Ext.refl _).alloc _
    have rs : FamsA (some ⟨wN.heap.size, 0, none⟩) [fzD zn] wS := by rw [← hwS]; exact FamsA.one0 (heap_last _ _)
    rw [hwS] at hHeld ⊢
    clear hwS
    replace al := al.ext xs
    refine wpAnyH_ready (rs := [3]) (by kernel_rfl) (by simp) (AllReadyH.cons (o := ?om492A1) ?im492A1 (fun K hK => ?km492A1) AllReadyH.nil)
    case im492A1 => simp only [List.getElem?_toArray, List.getElem?_cons_succ, List.getElem?_cons_zero]; rfl
    case km492A1 =>
     rw [if_pos (by rfl)]
     have hbW : WW.heap.size ≤ wS.heap.size := hHeld.size
     obtain ⟨v1, wA, ea, ra, xa⟩ := app_nil tyFam (fun _ => rfl) famC_one (by decide) wS 25 FamD.zero ⟨qb, qo, none⟩ LL LL.length cq (FamsA.src (hQA.ext hHeld)) (by first | rfl | rw [List.length_drop]) (by omega) (by omega) (by omega)
     refine Lib.wp_append_run _ _ _ _ _ rfl _ _ rfl rfl v1 wA ea (hK.out _ _ (hHeld.trans xa) (fun hHeld => ?_))
     clear hK K ea
     try simp only [aT, aZ, aS]
     have hba : wS.heap.size ≤ wA.heap.size := xa.size
     have hnl := al.lt
     have nv : ∀ g, v1.ownBlock = some g → w0.heap.size ≠ g := fun g hg => by have := (ra.lt g hg).1; omega
     replace al := al.ext xa
     replace rs := rs.ext xa
     refine wpAnyH_ready (rs := [12]) (by kernel_rfl) (by simp) (AllReadyH.cons (o := ?om493A2) ?im493A2 (fun K hK => ?km493A2) AllReadyH.nil)
     case im493A2 => simp only [List.getElem?_toArray, List.getElem?_cons_succ, List.getElem?_cons_zero]; rfl
     case km493A2 =>
      rw [if_pos (by rfl)]
      obtain ⟨v2, wB, eb, rb, gb, _⟩ := app_row tyFam (fun _ => rfl) famC_one (by decide) wA 25 FamD.zero wS.heap.size LL.length v1 LL ra (by first | rfl | rw [List.length_drop]) (by omega) hba ⟨wN.heap.size, 0, none⟩ [fzD zn] 1 1 (FamsA.src (rs)) (by first | rfl | (rw [List.length_take]; omega)) (by omega) (by omega)
      have xb : Ext WW wB := grown_ext' hHeld gb (Nat.le_refl _) (fun g hg => by have := (ra.lt g hg).1; omega)
      refine Lib.wp_append_run _ _ _ _ _ rfl _ _ rfl rfl v2 wB eb (hK.out _ _ xb (fun hHeld => ?_))
      clear hK K eb
      try simp only [aT, aZ, aS]
      obtain ⟨a5, c5, hv5, rp⟩ := rb.fams (by (simp only [List.length_append, List.length_drop, List.length_take, List.length_singleton]) <;> omega) (fun f hf => (List.mem_append.1 hf).elim (fun hf => (hQA.2 f hf).ext xb) (fun hf => by rw [List.mem_singleton] at hf; rw [hf]; exact ⟨fun h => absurd h (by simp [fzD]), by intro p hp; simp [fzD] at hp⟩))
      rw [hLM.out] at hv5 rp
      subst hv5
      clear rb
      replace al := al.grown gb (fun g hg => nv g hg)
      clear nv
      clear gb ra hba
      refine wpAnyH_ready (rs := [13]) (by kernel_rfl) (by simp) (AllReadyH.cons (o := ?om494C) ?im494C (fun K hK => ?km494C) AllReadyH.nil)
      case im494C => simp only [List.getElem?_toArray, List.getElem?_cons_succ, List.getElem?_cons_zero]; rfl
      case km494C =>
       rw [if_pos (by rfl)]
       go_simp
       have CS := fun W (x : Ext wB W) => batOf_any tn a5 c5 LM W hLM1 (by omega) (rp.ext x) hLMs
       go_at_call 18
       (with_reducible refine (CS _ (Ext.refl _)).mono ?_)
       rintro e wC ⟨hst, xc⟩
       obtain rfl := hst.bad hnone
       refine hK.out _ _ (hHeld.trans xc) (fun hHeld => ?_)
       clear hK K CS hst rp
       try simp only [aT, aZ, aS]
       replace al := al.ext xc
       refine tk (i := 14) rfl (by kernel_rfl) (fun _ _ _ h => h) rfl (fun w9 hSw => by go_simp; (try with_reducible rfl)) hHeld ?_
       try simp only [Act.put, aT, aZ, aS]
       refine tk (i := 15) rfl (by kernel_rfl) (fun _ _ _ h => h) rfl (fun w9 hSw => by go_simp; (try with_reducible rfl)) hHeld ?_
       try simp only [Act.put, aT, aZ, aS]
       refine tk (i := 16) rfl (by kernel_rfl) (fun _ _ _ h => h) rfl (fun w9 hSw => by go_simp; (try with_reducible rfl)) hHeld ?_
       try simp only [Act.put, aT, aZ, aS]
       refine wpAnyH_ready (rs := [18]) (by kernel_rfl) (by simp) (AllReadyH.cons (o := ?om498ST) ?im498ST (fun K hK => ?km498ST) AllReadyH.nil)
       case im498ST => simp only [List.getElem?_toArray, List.getElem?_cons_succ, List.getElem?_cons_zero]; rfl
       case km498ST =>
        rw [if_pos (by rfl)]
        obtain ⟨d0, d1⟩ := al.cells
        have fr := fun o => al.free o
        go_simp
        refine hK.out _ _ ((hHeld.setC w0.heap.size 0 _ hnW).setC w0.heap.size 1 _ hnW) (fun hHeld => ?_)
        clear hK K fr d0 d1 al
        try simp only [aT, aZ, aS]
        refine tk (i := 19) rfl (by kernel_rfl) (fun _ _ _ h => h) rfl (fun w9 hSw => by go_simp; (try with_reducible rfl)) hHeld ?_
        try simp only [Act.put, aT, aZ, aS]
        refine wpAnyH_done (by kernel_rfl) ?_ _
        go_wp2_with fail
        go_meet
        case rel =>
         exact ⟨_, rfl, rfl, hHeld⟩
 case rest =>
 obtain ⟨nN, rfl, rfl, y1⟩ := hcut
 clear hnone hLM1 hLMs hLM hLLs hQA q0 hqb b0 b1 hBB hl0
 replace gB := gB.ext y1
 replace gX := gX.ext y1
 replace gY := gY.ext y1
 replace hA := hA.ext y1
 replace hF1 := hF1.ext y1
 replace hF3 := hF3.ext y1
 replace z1 := z1.trans y1
 clear y1
 have hbb := gB.lt
 have hbx := gX.lt
 have hby := gY.lt
 obtain ⟨b0, b1⟩ := gB.cells
 obtain ⟨x0, x1⟩ := gX.cells
 obtain ⟨y0, y1⟩ := gY.cells
 obtain ⟨sm1, ln1⟩ := hs2.out L1 hL1.out
 obtain ⟨sm3, ln3⟩ := hs2.out L3 hL3.out
 have S1 := fun W (x : Ext wc W) => batSame_any tn a1 c1 L1 tn (some ⟨b, o, none⟩) c l W (by omega) (by omega) (hF1.ext x) (hA.ext x) sm1 hs
 rw [hL1.out, sameFs_refl, decide_eq_true rfl] at S1
 have S2 := fun W (x : Ext wc W) => batSame_any tn a3 c3 L3 tn (some ⟨b, o, none⟩) c l W (by omega) (by omega) (hF3.ext x) (hA.ext x) sm3 hs
 rw [hL3.out, sameFs_refl, decide_eq_true rfl] at S2
 have S3 := fun W (x : Ext wc W) => Check_any tn a1 c1 L1 W (by omega) (by omega) (hF1.ext x) sm1
 rw [hL1.out, hr.out] at S3
 have PX := fun W (x : Ext wc W) => Points_any tn a1 c1 L1 W (by omega) (hF1.ext x) sm1
 have PB := fun W (x : Ext wc W) => Points_any tn (some ⟨b, o, none⟩) c l W (by omega) (hA.ext x) hs
 rw [hL1.out] at PX
 generalize ptsN (l.map FamD.y) = np at *
 clear hA hF1 hF3 hs sm1 sm3 gB gX gY GB
 go_wp2_with fail
 refine wp_region_held_drew (S := Ext wc) (by kernel_rfl) ((Ext.refl wc).drew) (fun hHeld => ?_)
 refine tk (i := 0) rfl (by kernel_rfl) (fun _ _ _ h => h) rfl (fun w9 hSw => by go_simp; (try with_reducible rfl)) hHeld ?_
 try simp only [Act.put, aT, aZ, aS]
 refine tk (i := 1) rfl (by kernel_rfl) (fun _ _ _ h => h) rfl (fun w9 hSw => by go_simp; (try with_reducible rfl)) hHeld ?_
 try simp only [Act.put, aT, aZ, aS]
 refine tk (i := 2) rfl (by kernel_rfl) (fun _ _ _ h => h) rfl (fun w9 hSw => by go_simp; (try with_reducible rfl)) hHeld ?_
 try simp only [Act.put, aT, aZ, aS]
 refine tk (i := 3) rfl (by kernel_rfl) (fun _ _ _ h => h) rfl (fun w9 hSw => by go_simp; (try with_reducible rfl)) hHeld ?_
 try simp only [Act.put, aT, aZ, aS]
 refine tk (i := 4) rfl (by kernel_rfl) (fun _ _ _ h => h) rfl (fun w9 hSw => by go_simp; (try with_reducible rfl)) hHeld ?_
 try simp only [Act.put, aT, aZ, aS]
 refine tk (i := 5) rfl (by kernel_rfl) (fun _ _ _ h => h) rfl (fun w9 hSw => by go_simp; (try with_reducible rfl)) hHeld ?_
 try simp only [Act.put, aT, aZ, aS]
 refine tk (i := 6) rfl (by kernel_rfl) (fun _ _ _ h => h) rfl (fun w9 hSw => by go_simp; (try with_reducible rfl)) hHeld ?_
 try simp only [Act.put, aT, aZ, aS]
 refine tk (i := 7) rfl (by kernel_rfl) (fun _ _ _ h => h) rfl (fun w9 hSw => by go_simp; (try with_reducible rfl)) hHeld ?_
 try simp only [Act.put, aT, aZ, aS]
 refine tk (i := 8) rfl (by kernel_rfl) (fun _ _ _ h => h) rfl (fun w9 hSw => by go_simp; (try with_reducible rfl)) hHeld ?_
 try simp only [Act.put, aT, aZ, aS]
 refine tk (i := 9) rfl (by kernel_rfl) (fun _ _ _ h => h) rfl (fun w9 hSw => by replace b0 := (Ext.cell hSw hbb).trans b0; replace b1 := (Ext.cell hSw hbb).trans b1; replace x0 := (Ext.cell hSw hbx).trans x0; replace x1 := (Ext.cell hSw hbx).trans x1; replace y0 := (Ext.cell hSw hby).trans y0; replace y1 := (Ext.cell hSw hby).trans y1; go_simp; (try with_reducible rfl)) hHeld ?_
 try simp only [Act.put, aT, aZ, aS]
 refine tk (i := 10) rfl (by kernel_rfl) (fun _ _ _ h => h) rfl (fun w9 hSw => by replace b0 := (Ext.cell hSw hbb).trans b0; replace b1 := (Ext.cell hSw hbb).trans b1; replace x0 := (Ext.cell hSw hbx).trans x0; replace x1 := (Ext.cell hSw hbx).trans x1; replace y0 := (Ext.cell hSw hby).trans y0; replace y1 := (Ext.cell hSw hby).trans y1; go_simp; (try with_reducible rfl)) hHeld ?_
 try simp only [Act.put, aT, aZ, aS]
 refine wpAnyH_ready (rs := [11]) (by kernel_rfl) (by simp) (AllReadyH.cons (o := ?om511) ?im511 (fun K hK => ?_) AllReadyH.nil)
 case im511 => simp only [List.getElem?_toArray, List.getElem?_cons_succ, List.getElem?_cons_zero]; rfl
 rw [if_pos (by rfl)]
 go_simp
 go_at_call 20
 (with_reducible refine (S1 _ hHeld).mono ?_)
 rintro e wz ⟨rfl, xz⟩
 refine hK.out _ _ (hHeld.trans xz) (fun hHeld => ?_)
 clear hK K
 try simp only [aT, aZ, aS]
 refine tk (i := 12) rfl (by kernel_rfl) (fun _ _ _ h => h) rfl (fun w9 hSw => by go_simp; (try with_reducible rfl)) hHeld ?_
 try simp only [Act.put, aT, aZ, aS]
 refine tk (i := 13) rfl (by kernel_rfl) (fun _ _ _ h => h) rfl (fun w9 hSw => by go_simp; (try with_reducible rfl)) hHeld ?_
 try simp only [Act.put, aT, aZ, aS]
 refine tk (i := 14) rfl (by kernel_rfl) (fun _ _ _ h => h) rfl (fun w9 hSw => by replace b0 := (Ext.cell hSw hbb).trans b0; replace b1 := (Ext.cell hSw hbb).trans b1; replace x0 := (Ext.cell hSw hbx).trans x0; replace x1 := (Ext.cell hSw hbx).trans x1; replace y0 := (Ext.cell hSw hby).trans y0; replace y1 := (Ext.cell hSw hby).trans y1; go_simp; (try with_reducible rfl)) hHeld ?_
 try simp only [Act.put, aT, aZ, aS]
 refine tk (i := 15) rfl (by kernel_rfl) (fun _ _ _ h => h) rfl (fun w9 hSw => by replace b0 := (Ext.cell hSw hbb).trans b0; replace b1 := (Ext.cell hSw hbb).trans b1; replace x0 := (Ext.cell hSw hbx).trans x0; replace x1 := (Ext.cell hSw hbx).trans x1; replace y0 := (Ext.cell hSw hby).trans y0; replace y1 := (Ext.cell hSw hby).trans y1; go_simp; (try with_reducible rfl)) hHeld ?_
 try simp only [Act.put, aT, aZ, aS]
 refine wpAnyH_ready (rs := [16]) (by kernel_rfl) (by simp) (AllReadyH.cons (o := ?om516) ?im516 (fun K hK => ?_) AllReadyH.nil)
 case im516 => simp only [List.getElem?_toArray, List.getElem?_cons_succ, List.getElem?_cons_zero]; rfl
 rw [if_pos (by rfl)]
 go_simp
 go_at_call 20
 (with_reducible refine (S2 _ hHeld).mono ?_)
 rintro e wz ⟨rfl, xz⟩
 refine hK.out _ _ (hHeld.trans xz) (fun hHeld => ?_)
 clear hK K
 try simp only [aT, aZ, aS]
 refine tk (i := 17) rfl (by kernel_rfl) (fun _ _ _ h => h) rfl (fun w9 hSw => by go_simp; (try with_reducible rfl)) hHeld ?_
 try simp only [Act.put, aT, aZ, aS]
 refine tk (i := 18) rfl (by kernel_rfl) (fun _ _ _ h => h) rfl (fun w9 hSw => by go_simp; (try with_reducible rfl)) hHeld ?_
 try simp only [Act.put, aT, aZ, aS]
 refine tk (i := 19) rfl (by kernel_rfl) (fun _ _ _ h => h) rfl (fun w9 hSw => by replace b0 := (Ext.cell hSw hbb).trans b0; replace b1 := (Ext.cell hSw hbb).trans b1; replace x0 := (Ext.cell hSw hbx).trans x0; replace x1 := (Ext.cell hSw hbx).trans x1; replace y0 := (Ext.cell hSw hby).trans y0; replace y1 := (Ext.cell hSw hby).trans y1; go_simp; (try with_reducible rfl)) hHeld ?_
 try simp only [Act.put, aT, aZ, aS]
 refine wpAnyH_ready (rs := [20]) (by kernel_rfl) (by simp) (AllReadyH.cons (o := ?om520) ?im520 (fun K hK => ?_) AllReadyH.nil)
 case im520 => simp only [List.getElem?_toArray, List.getElem?_cons_succ, List.getElem?_cons_zero]; rfl
 rw [if_pos (by rfl)]
 go_simp
 go_at_call 21
 (with_reducible refine (S3 _ hHeld).mono ?_)
 rintro e wz ⟨rfl, xz⟩
 refine hK.out _ _ (hHeld.trans xz) (fun hHeld => ?_)
 clear hK K
 try simp only [aT, aZ, aS]
 refine tk (i := 21) rfl (by kernel_rfl) (fun _ _ _ h => h) rfl (fun w9 hSw => by go_simp; (try with_reducible rfl)) hHeld ?_
 try simp only [Act.put, aT, aZ, aS]
 refine tk (i := 22) rfl (by kernel_rfl) (fun _ _ _ h => h) rfl (fun w9 hSw => by go_simp; (try with_reducible rfl)) hHeld ?_
 try simp only [Act.put, aT, aZ, aS]
 refine tk (i := 23) rfl (by kernel_rfl) (fun _ _ _ h => h) rfl (fun w9 hSw => by go_simp; (try with_reducible rfl)) hHeld ?_
 try simp only [Act.put, aT, aZ, aS]
 refine tk (i := 24) rfl (by kernel_rfl) (fun _ _ _ h => h) rfl (fun w9 hSw => by replace b0 := (Ext.cell hSw hbb).trans b0; replace b1 := (Ext.cell hSw hbb).trans b1; replace x0 := (Ext.cell hSw hbx).trans x0; replace x1 := (Ext.cell hSw hbx).trans x1; replace y0 := (Ext.cell hSw hby).trans y0; replace y1 := (Ext.cell hSw hby).trans y1; go_simp; (try with_reducible rfl)) hHeld ?_
 try simp only [Act.put, aT, aZ, aS]
 refine tk (i := 26) rfl (by kernel_rfl) (fun _ _ _ h => h) rfl (fun w9 hSw => by replace b0 := (Ext.cell hSw hbb).trans b0; replace b1 := (Ext.cell hSw hbb).trans b1; replace x0 := (Ext.cell hSw hbx).trans x0; replace x1 := (Ext.cell hSw hbx).trans x1; replace y0 := (Ext.cell hSw hby).trans y0; replace y1 := (Ext.cell hSw hby).trans y1; go_simp; (try with_reducible rfl)) hHeld ?_
 try simp only [Act.put, aT, aZ, aS]
 refine wpAnyH_ready (rs := [25]) (by kernel_rfl) (by simp) (AllReadyH.cons (o := ?om526) ?im526 (fun K hK => ?_) AllReadyH.nil)
 case im526 => simp only [List.getElem?_toArray, List.getElem?_cons_succ, List.getElem?_cons_zero]; rfl
 rw [if_pos (by rfl)]
 go_simp
 go_at_call 22
 (with_reducible refine (PX _ hHeld).mono ?_)
 rintro e wz ⟨rfl, xz⟩
 refine hK.out _ _ (hHeld.trans xz) (fun hHeld => ?_)
 clear hK K
 try simp only [aT, aZ, aS]
 refine wpAnyH_ready (rs := [27]) (by kernel_rfl) (by simp) (AllReadyH.cons (o := ?om527) ?im527 (fun K hK => ?_) AllReadyH.nil)
 case im527 => simp only [List.getElem?_toArray, List.getElem?_cons_succ, List.getElem?_cons_zero]; rfl
 rw [if_pos (by rfl)]
 go_simp
 go_at_call 22
 (with_reducible refine (PB _ hHeld).mono ?_)
 rintro e wz ⟨rfl, xz⟩
 refine hK.out _ _ (hHeld.trans xz) (fun hHeld => ?_)
 clear hK K
 try simp only [aT, aZ, aS]
 refine tk (i := 28) rfl (by kernel_rfl) (fun _ _ _ h => h) rfl (fun w9 hSw => by go_simp; (try with_reducible rfl)) hHeld ?_
 try simp only [Act.put, aT, aZ, aS]
 refine tk (i := 29) rfl (by kernel_rfl) (fun _ _ _ h => h) rfl (fun w9 hSw => by go_simp; (try with_reducible rfl)) hHeld ?_
 try simp only [Act.put, aT, aZ, aS]
 refine tk (i := 30) rfl (by kernel_rfl) (fun _ _ _ h => h) rfl (fun w9 hSw => by go_simp; (try with_reducible rfl)) hHeld ?_
 try simp only [Act.put, aT, aZ, aS]
 refine wpAnyH_done (by kernel_rfl) ?_ _
 go_wp2_with fail
 go_ret
 exact ⟨rfl, z1.trans hHeld⟩
end Go.Proofs.YtjjnmefihdjglaaGreat
