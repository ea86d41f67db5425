import Derived.Test.YtjjnmefihdjglaaGreatBatE
namespace Go.Proofs.YtjjnmefihdjglaaGreat
open Go.RowKit
theorem OfTold.good {tn : ByteArray} {l M : List FamY} {base : Nat} {e : Ending} {w' : World} (h : OfTold tn l base e w') (hs : sortB l = some M) (hc : checkB tn M = 0) :
  ∃ a c L, L.map FamD.y = M ∧ e = .returned (.tuple #[.agg #[.string tn, .slice a L.length c], .bool true]) ∧ FamsA a L w' ∧ OwnF base (.slice a L.length c) L w' := by
 rcases h with ⟨v, L, h1, _, h3, h4⟩ | ⟨h1, _⟩
 ·obtain ⟨a, c, rfl, h5⟩ := h4.fams
  rw [hs] at h1
  injection h1 with h1
  exact ⟨a, c, L, h1.symm, h3, h5, h4⟩
 ·exact absurd hc (h1 M hs)
theorem OfTold.bad {tn : ByteArray} {l : List FamY} {base : Nat} {e : Ending} {w' : World} (h : OfTold tn l base e w') (hn : ∀ N, sortB l = some N → checkB tn N ≠ 0) :
  e = .returned (.tuple #[.agg #[.string ⟨#[]⟩, .slice none 0 0], .bool false]) := by
 rcases h with ⟨v, L, h1, h2, _⟩ | ⟨_, h⟩
 ·exact absurd h2 (hn _ h1)
 ·exact h
theorem sortN_dup {l1 l2 : List FamY} {x y : FamY} (hx : x ∈ l1) (hy : y ∈ l2) (e : cmpNm x y = 0) : sortN (l1 ++ l2) = none := by
 refine sortN_none fun N hN h => ?_
 have h1 : N.Pairwise (fun a b => cmpNm a b ≠ 0) := h.imp (fun {a b} hab => by omega)
 have h2 : (l1 ++ l2).Pairwise (fun a b => cmpNm a b ≠ 0) := (hN.pairwise_iff (fun {a b} hab => by have := cmpNm_cmp.anti a b; omega)).1 h1
 rw [List.pairwise_append] at h2
 exact h2.2.2 x hx y hy e
theorem two_of_map {L : List FamD} {a b : FamY} (h : L.map FamD.y = [a, b]) : ∃ f1 f2, L = [f1, f2] ∧ f1.y = a ∧ f2.y = b := by
 cases L with
 | nil => cases h
 | cons f1 L =>
   cases L with
   | nil => cases h
   | cons f2 L =>
     cases L with
     | nil => simp at h; exact ⟨f1, f2, rfl, h.1, h.2⟩
     | cons f3 L => cases h
def kp10 (v : Int) : PtD := ⟨none, 0, [], 0, false, 0, 0, v, 0, false, 0⟩
def kf10 (nm : ByteArray) (v : Int) : FamY := ⟨nm, 1, ⟨#[]⟩, ⟨#[]⟩, [(⟨[], 0, false, 0, 0, false, 0⟩, v, 0)]⟩
set_option maxHeartbeats 4000000 in
set_option maxRecDepth 100000 in
theorem fam10_any (nm : ByteArray) (v : Int) (w : World) (hv : I64 v) :
  Calls Tryz.prog 37 #[.string nm, .int .i64 v] w fun e w' => (∃ g, e = .returned (.agg #[.string nm, .int .i64 1, .string ⟨#[]⟩, .string ⟨#[]⟩, .slice (some ⟨g, 0, none⟩) 1 1]) ∧ PtsA (some ⟨g, 0, none⟩) [kp10 v] w') ∧ Ext w w' := by
 obtain ⟨W, hW⟩ : ∃ W, (w.alloc (.cells #[.string nm, .int .i64 1, .string ⟨#[]⟩, .string ⟨#[]⟩, .slice (some ⟨w.heap.size + 1, 0, none⟩) 1 1] 35)).alloc (.cells #[.slice none 0 0, .int .i64 0, .bool false, .int .i64 0, .int .i64 0, .int .i64 v, .int .i64 0, .bool false, .int .i64 0] 40) = W := ⟨_, rfl⟩
 have x1 : Ext w W := by rw [← hW]; exact ((Ext.refl w).alloc _).alloc _
 have h1 : FamIn w.heap.size nm 1 ⟨#[]⟩ ⟨#[]⟩ (.slice (some ⟨w.heap.size + 1, 0, none⟩) 1 1) W := by rw [← hW]; exact heap_at2a _ _ _
 have h2 : W.heap[w.heap.size + 1]? = some (.cells #[.slice none 0 0, .int .i64 0, .bool false, .int .i64 0, .int .i64 0, .int .i64 v, .int .i64 0, .bool false, .int .i64 0] 40 (0, 0)) := by rw [← hW]; exact heap_at2b _ _ _
 have hP : PtsA (some ⟨w.heap.size + 1, 0, none⟩) [kp10 v] W := by
  refine ⟨fun _ => ⟨_, 0, rfl, (Array.getElem?_eq_some_iff.1 h2).1, fun i hi => ?_⟩, fun p hp => ?_⟩
  ·simp only [Lib.cell_of_heap h2]
   match i, hi with
   | 0, _ => exact ⟨rfl, rfl, rfl, rfl, rfl, rfl, rfl, rfl, rfl⟩
  ·rw [List.mem_singleton] at hp
   subst hp
   exact ⟨by simp [kp10], LabA.nil _ _, by intro x hx; simp [kp10] at hx, by simp [kp10, I64], by unfold kp10; exact ⟨hv, by simp [I64]⟩⟩
 replace hW := Lib.hid hW
 obtain ⟨c0, c1, c2, c3, c4⟩ := h1.cells
 clear h1 h2
 go_enter Tryz.func37, Tryz.ntmps37
 go_wp2_with fail
 rw [hW.out]
 refine bodyPost_ret (v := .agg #[.string nm, .int .i64 1, .string ⟨#[]⟩, .string ⟨#[]⟩, .slice (some ⟨w.heap.size + 1, 0, none⟩) 1 1]) ?_ rfl ⟨⟨_, rfl, hP⟩, x1⟩
 simp [results, Tryz.results37, go_sem, c0, c1, c2, c3, c4]
def kd10 (nm : ByteArray) (v : Int) (g : Nat) : FamD := ⟨nm, 1, ⟨#[]⟩, ⟨#[]⟩, some ⟨g, 0, none⟩, 1, [kp10 v]⟩
theorem kd10_sm (nm : ByteArray) (v : Int) (g : Nat) (h : nm.size ≤ 1000) : (kd10 nm v g).y.Sm :=
 ⟨h, by show (0 : Nat) ≤ 1000; decide, by show (0 : Nat) ≤ 1000; decide, by show (1 : Nat) ≤ 1000; decide, fun q hq => by
   have : q = (kp10 v).y := by simpa [kd10, FamD.y] using hq
   subst this
   show (0 : Nat) ≤ 1000
   decide⟩
theorem two10 (n1 n2 : ByteArray) (v1 v2 : Int) (g1 g2 : Nat) (w : World) (p1 : PtsA (some ⟨g1, 0, none⟩) [kp10 v1] w) (p2 : PtsA (some ⟨g2, 0, none⟩) [kp10 v2] w) :
  FamsA (some ⟨w.heap.size, 0, none⟩) [kd10 n1 v1 g1, kd10 n2 v2 g2] (w.alloc (.cells #[.string n1, .int .i64 1, .string ⟨#[]⟩, .string ⟨#[]⟩, .slice (some ⟨g1, 0, none⟩) 1 1, .string n2, .int .i64 1, .string ⟨#[]⟩, .string ⟨#[]⟩, .slice (some ⟨g2, 0, none⟩) 1 1] 35)) := by
 have h : (w.alloc (.cells #[.string n1, .int .i64 1, .string ⟨#[]⟩, .string ⟨#[]⟩, .slice (some ⟨g1, 0, none⟩) 1 1, .string n2, .int .i64 1, .string ⟨#[]⟩, .string ⟨#[]⟩, .slice (some ⟨g2, 0, none⟩) 1 1] 35)).heap[w.heap.size]? = some (.cells #[.string n1, .int .i64 1, .string ⟨#[]⟩, .string ⟨#[]⟩, .slice (some ⟨g1, 0, none⟩) 1 1, .string n2, .int .i64 1, .string ⟨#[]⟩, .string ⟨#[]⟩, .slice (some ⟨g2, 0, none⟩) 1 1] 35 (0, 0)) := heap_last _ _
 have x := (Ext.refl w).alloc (.cells #[.string n1, .int .i64 1, .string ⟨#[]⟩, .string ⟨#[]⟩, .slice (some ⟨g1, 0, none⟩) 1 1, .string n2, .int .i64 1, .string ⟨#[]⟩, .string ⟨#[]⟩, .slice (some ⟨g2, 0, none⟩) 1 1] 35)
 refine ⟨fun _ => ⟨_, 0, rfl, (Array.getElem?_eq_some_iff.1 h).1, fun i hi => ?_⟩, fun f hf => ?_⟩
 ·simp only [Lib.cell_of_heap h]
  match i, hi with
  | 0, _ => exact ⟨rfl, rfl, rfl, rfl, rfl⟩
  | 1, _ => exact ⟨rfl, rfl, rfl, rfl, rfl⟩
 ·rcases List.mem_cons.1 hf with rfl | hf
  ·exact p1.ext x
  ·rw [List.mem_singleton] at hf
   subst hf
   exact p2.ext x
theorem of10 (tn n1 n2 : ByteArray) (v1 v2 : Int) (g1 g2 : Nat) (w : World) (ht : tn.size ≤ 1000000) (h1 : n1.size ≤ 1000) (h2 : n2.size ≤ 1000) (p1 : PtsA (some ⟨g1, 0, none⟩) [kp10 v1] w) (p2 : PtsA (some ⟨g2, 0, none⟩) [kp10 v2] w) :
  Calls Tryz.prog 18 #[.string tn, .slice (some ⟨w.heap.size, 0, none⟩) 2 2] (w.alloc (.cells #[.string n1, .int .i64 1, .string ⟨#[]⟩, .string ⟨#[]⟩, .slice (some ⟨g1, 0, none⟩) 1 1, .string n2, .int .i64 1, .string ⟨#[]⟩, .string ⟨#[]⟩, .slice (some ⟨g2, 0, none⟩) 1 1] 35)) fun e w' => OfTold tn [kf10 n1 v1, kf10 n2 v2] (w.alloc (.cells #[.string n1, .int .i64 1, .string ⟨#[]⟩, .string ⟨#[]⟩, .slice (some ⟨g1, 0, none⟩) 1 1, .string n2, .int .i64 1, .string ⟨#[]⟩, .string ⟨#[]⟩, .slice (some ⟨g2, 0, none⟩) 1 1] 35)).heap.size e w' ∧ Ext (w.alloc (.cells #[.string n1, .int .i64 1, .string ⟨#[]⟩, .string ⟨#[]⟩, .slice (some ⟨g1, 0, none⟩) 1 1, .string n2, .int .i64 1, .string ⟨#[]⟩, .string ⟨#[]⟩, .slice (some ⟨g2, 0, none⟩) 1 1] 35)) w' :=
 batOf_any tn (some ⟨w.heap.size, 0, none⟩) 2 [kd10 n1 v1 g1, kd10 n2 v2 g2] _ (by decide : (2 : Nat) ≤ 1000) ht (two10 n1 n2 v1 v2 g1 g2 w p1 p2) (fun f hf => by
  rcases List.mem_cons.1 hf with rfl | hf
  ·exact kd10_sm _ _ _ h1
  ·rw [List.mem_singleton] at hf
   subst hf
   exact kd10_sm _ _ _ h2)
theorem check10 (tn n1 n2 : ByteArray) (v1 v2 : Int) (g1 g2 : Nat) (w : World) (ht : tn.size ≤ 1000000) (h1 : n1.size ≤ 1000) (h2 : n2.size ≤ 1000) (p1 : PtsA (some ⟨g1, 0, none⟩) [kp10 v1] w) (p2 : PtsA (some ⟨g2, 0, none⟩) [kp10 v2] w) :
  Calls Tryz.prog 21 #[.agg #[.string tn, .slice (some ⟨w.heap.size, 0, none⟩) 2 2]] (w.alloc (.cells #[.string n1, .int .i64 1, .string ⟨#[]⟩, .string ⟨#[]⟩, .slice (some ⟨g1, 0, none⟩) 1 1, .string n2, .int .i64 1, .string ⟨#[]⟩, .string ⟨#[]⟩, .slice (some ⟨g2, 0, none⟩) 1 1] 35)) fun e w' => e = .returned (.int .i64 (checkB tn [kf10 n1 v1, kf10 n2 v2])) ∧ Ext (w.alloc (.cells #[.string n1, .int .i64 1, .string ⟨#[]⟩, .string ⟨#[]⟩, .slice (some ⟨g1, 0, none⟩) 1 1, .string n2, .int .i64 1, .string ⟨#[]⟩, .string ⟨#[]⟩, .slice (some ⟨g2, 0, none⟩) 1 1] 35)) w' :=
 Check_any tn (some ⟨w.heap.size, 0, none⟩) 2 [kd10 n1 v1 g1, kd10 n2 v2 g2] _ (by decide : (2 : Nat) ≤ 1000000) ht (two10 n1 n2 v1 v2 g1 g2 w p1 p2) (fun f hf => by
  rcases List.mem_cons.1 hf with rfl | hf
  ·exact kd10_sm _ _ _ h1
  ·rw [List.mem_singleton] at hf
   subst hf
   exact kd10_sm _ _ _ h2)
theorem kf10_ris (nm : ByteArray) (v : Int) : Ris cmpY (kf10 nm v).ps := by unfold kf10 Ris; simp
theorem sort10_ab : sortB [kf10 ⟨#[98]⟩ 1, kf10 ⟨#[97]⟩ 2] = some [kf10 ⟨#[97]⟩ 2, kf10 ⟨#[98]⟩ 1] := by
 unfold sortB
 rw [srts_self (fun f hf => by
  rcases List.mem_cons.1 hf with rfl | hf
  ·exact kf10_ris _ _
  ·rw [List.mem_singleton] at hf
   subst hf
   exact kf10_ris _ _), Option.bind_some]
 refine sortN_some (List.Perm.swap _ _ _) ?_
 unfold Ris
 rw [List.pairwise_cons]
 exact ⟨by intro x hx; rw [List.mem_singleton] at hx; subst hx; decide +kernel, by simp⟩
theorem sort10_aa : sortB [kf10 ⟨#[97]⟩ 1, kf10 ⟨#[97]⟩ 2] = none := by
 unfold sortB
 rw [srts_self (fun f hf => by
  rcases List.mem_cons.1 hf with rfl | hf
  ·exact kf10_ris _ _
  ·rw [List.mem_singleton] at hf
   subst hf
   exact kf10_ris _ _), Option.bind_some]
 exact sortN_dup (l1 := [kf10 ⟨#[97]⟩ 1]) (l2 := [kf10 ⟨#[97]⟩ 2]) (List.mem_singleton.2 rfl) (List.mem_singleton.2 rfl) (by decide +kernel)
theorem sort10_nil : sortB [] = some [] := by
 unfold sortB
 rw [show srts [] = some [] from rfl, Option.bind_some]
 exact sortN_some (List.Perm.refl _) List.Pairwise.nil
set_option maxHeartbeats 8000000 in
set_option maxRecDepth 100000 in
theorem known10_any (w : World) : Calls Tryz.prog 17 #[] w fun e w' => e = .returned (.bool true) ∧ Ext w w' := by
 have FB := fun W => fam10_any ⟨#[98]⟩ 1 W (by simp [I64])
 have FA := fun W => fam10_any ⟨#[97]⟩ 2 W (by simp [I64])
 have FA1 := fun W => fam10_any ⟨#[97]⟩ 1 W (by simp [I64])
 have T1 : ∀ W, Calls Tryz.prog 24 #[.string ⟨#[97, 45, 57]⟩] W fun e w' => e = .returned (.bool true) ∧ Ext W w' := fun W => by
  have := Tenant_any ⟨#[97, 45, 57]⟩ W (by decide)
  rw [show tenB ⟨#[97, 45, 57]⟩ = true from by decide +kernel] at this
  exact this
 have T2 : ∀ W, Calls Tryz.prog 24 #[.string ⟨#[]⟩] W fun e w' => e = .returned (.bool false) ∧ Ext W w' := fun W => by
  have := Tenant_any ⟨#[]⟩ W (by decide)
  rw [show tenB ⟨#[]⟩ = false from by decide +kernel] at this
  exact this
 have T3 : ∀ W, Calls Tryz.prog 24 #[.string ⟨#[65]⟩] W fun e w' => e = .returned (.bool false) ∧ Ext W w' := fun W => by
  have := Tenant_any ⟨#[65]⟩ W (by decide)
  rw [show tenB ⟨#[65]⟩ = false from by decide +kernel] at this
  exact this
 go_enter Tryz.func17, Tryz.ntmps17
 go_wp2_with fail
 (with_reducible refine (FB _).mono ?_)
 rintro e w1 ⟨⟨g1, rfl, p1⟩, x1⟩
 go_wp2_with fail
 (with_reducible refine (FA _).mono ?_)
 rintro e w2 ⟨⟨g2, rfl, p2⟩, x2⟩
 have OF := of10 ⟨#[116]⟩ ⟨#[98]⟩ ⟨#[97]⟩ 1 2 g1 g2 w2 (by decide) (by decide) (by decide) (p1.ext x2) p2
 clear p1 p2
 go_wp2_with fail
 (with_reducible refine OF.mono ?_)
 rintro e w3 ⟨ht, x3⟩
 obtain ⟨a1, c1, L, hL, rfl, hA, hO⟩ := ht.good sort10_ab (by decide +kernel)
 clear OF ht
 replace x3 := ((x1.trans x2).alloc _).trans x3
 clear x1 x2
 obtain ⟨f1, f2, rfl, hy1, hy2⟩ := two_of_map hL
 have s1 : f1.y.Sm := by rw [hy1]; exact kd10_sm ⟨#[97]⟩ 2 0 (by decide)
 have s2 : f2.y.Sm := by rw [hy2]; exact kd10_sm ⟨#[98]⟩ 1 0 (by decide)
 have hs : ∀ f ∈ [f1, f2], f.y.Sm := fun f hf => by
  rcases List.mem_cons.1 hf with rfl | hf
  ·exact s1
  ·rw [List.mem_singleton] at hf
   subst hf
   exact s2
 have hn1 : f1.nm = ⟨#[97]⟩ := congrArg FamY.nm hy1
 have hmap : [f1, f2].map FamD.y = [kf10 ⟨#[97]⟩ 2, kf10 ⟨#[98]⟩ 1] := by rw [List.map_cons, List.map_cons, List.map_nil, hy1, hy2]
 obtain ⟨bb, oo, rfl, hbb, hAt⟩ := hA.1 (by simp)
 have hc0 := (hAt 0 (by simp)).1
 rw [Nat.zero_mul, Nat.add_zero] at hc0
 replace hc0 : w3.cell? ⟨bb, oo, none⟩ = some (.string ⟨#[97]⟩) := by rw [hc0]; exact congrArg (fun z => some (Value.string z)) hn1
 have hbIn : BatIn w3.heap.size ⟨#[116]⟩ (.slice (some ⟨bb, oo, none⟩) 2 c1) (w3.alloc (.cells #[.string ⟨#[116]⟩, .slice (some ⟨bb, oo, none⟩) 2 c1] 27)) := heap_last _ _
 have xa := (Ext.refl w3).alloc (.cells #[.string ⟨#[116]⟩, .slice (some ⟨bb, oo, none⟩) 2 c1] 27)
 change FamsA _ [f1, f2] w3 at hA
 have CK : ∀ W, Ext w3 W → Calls Tryz.prog 21 #[.agg #[.string ⟨#[116]⟩, .slice (some ⟨bb, oo, none⟩) 2 c1]] W fun e w' => e = .returned (.int .i64 0) ∧ Ext W w' := fun W x => by
  have := Check_any ⟨#[116]⟩ (some ⟨bb, oo, none⟩) c1 [f1, f2] W (by simp) (by decide) (hA.ext x) hs
  rw [hmap, show checkB ⟨#[116]⟩ [kf10 ⟨#[97]⟩ 2, kf10 ⟨#[98]⟩ 1] = 0 from by decide +kernel] at this
  exact this
 have PO : ∀ W, Ext w3 W → Calls Tryz.prog 22 #[.agg #[.string ⟨#[116]⟩, .slice (some ⟨bb, oo, none⟩) 2 c1]] W fun e w' => e = .returned (.int .i64 2) ∧ Ext W w' := fun W x => by
  have := Points_any ⟨#[116]⟩ (some ⟨bb, oo, none⟩) c1 [f1, f2] W (by simp) (hA.ext x) hs
  rw [hmap] at this
  exact this
 have SA : ∀ W, Ext w3 W → Calls Tryz.prog 20 #[.agg #[.string ⟨#[116]⟩, .slice (some ⟨bb, oo, none⟩) 2 c1], .agg #[.string ⟨#[116]⟩, .slice (some ⟨bb, oo, none⟩) 2 c1]] W fun e w' => e = .returned (.bool true) ∧ Ext W w' := fun W x => by
  have := batSame_any ⟨#[116]⟩ (some ⟨bb, oo, none⟩) c1 [f1, f2] ⟨#[116]⟩ (some ⟨bb, oo, none⟩) c1 [f1, f2] W (by simp) (by simp) (hA.ext x) (hA.ext x) hs hs
  rw [sameFs_refl, decide_eq_true rfl] at this
  exact this
 have SP : ∀ W, Ext w3 W → Calls Tryz.prog 23 #[.agg #[.string ⟨#[116]⟩, .slice (some ⟨bb, oo, none⟩) 2 c1], .string ⟨#[117]⟩] W fun e w' => (∃ a n c, e = .returned (.agg #[.string ⟨#[117]⟩, .slice a n c])) ∧ Ext W w' := fun W x => by
  refine (Stamp_any ⟨#[116]⟩ ⟨#[117]⟩ (some ⟨bb, oo, none⟩) c1 [f1, f2] W (by simp) (hA.ext x) hs).mono ?_
  rintro e w' ⟨⟨v, L, h1, _, h3⟩, h2⟩
  obtain ⟨a, c, rfl, _⟩ := h3.fams
  exact ⟨⟨_, _, _, h1⟩, h2⟩
 clear hA hO hAt hy1 hy2 hs s1 s2 hn1 hmap
 go_wp2_with fail
 (with_reducible refine (FA1 _).mono ?_)
 rintro e w4 ⟨⟨g3, rfl, p1⟩, x1⟩
 go_wp2_with fail
 (with_reducible refine (FA _).mono ?_)
 rintro e w5 ⟨⟨g4, rfl, p2⟩, x2⟩
 have OF := of10 ⟨#[116]⟩ ⟨#[97]⟩ ⟨#[97]⟩ 1 2 g3 g4 w5 (by decide) (by decide) (by decide) (p1.ext x2) p2
 clear p1 p2
 go_wp2_with fail
 (with_reducible refine OF.mono ?_)
 rintro e w6 ⟨ht, x4⟩
 obtain rfl := ht.bad (fun N hN => by rw [sort10_aa] at hN; cases hN)
 clear OF ht
 replace hbIn := hbIn.ext (((x1.trans x2).alloc _).trans x4)
 replace xa := ((xa.trans (x1.trans x2)).alloc _).trans x4
 clear x1 x2 x4
 have xb := (Ext.refl w6).alloc (.cells #[.string ⟨#[]⟩, .slice none 0 0] 27)
 have OG := batOf_any ⟨#[84]⟩ none 0 [] (w6.alloc (.cells #[.string ⟨#[]⟩, .slice none 0 0] 27)) (by decide) (by decide) (FamsA.nil _ _) (by intro f hf; cases hf)
 change Calls _ _ #[.string ⟨#[84]⟩, .slice none 0 0] _ _ at OG
 go_wp2_with fail
 (with_reducible refine OG.mono ?_)
 rintro e w7 ⟨ht, x4⟩
 obtain rfl := ht.bad (fun N hN => by
  rw [show List.map FamD.y [] = [] from rfl, sort10_nil] at hN
  injection hN with hN
  subst hN
  decide +kernel)
 clear OG ht
 replace hbIn := hbIn.ext (xb.trans x4)
 replace xa := xa.trans (xb.trans x4)
 clear xb x4
 have xb := (Ext.refl w7).alloc (.cells #[.string ⟨#[]⟩, .slice none 0 0] 27)
 have OG := batOf_any ⟨#[116]⟩ none 0 [] (w7.alloc (.cells #[.string ⟨#[]⟩, .slice none 0 0] 27)) (by decide) (by decide) (FamsA.nil _ _) (by intro f hf; cases hf)
 change Calls _ _ #[.string ⟨#[116]⟩, .slice none 0 0] _ _ at OG
 go_wp2_with fail
 (with_reducible refine OG.mono ?_)
 rintro e w8 ⟨ht, x4⟩
 obtain ⟨a8, c8, L8, hL8, rfl, _, _⟩ := ht.good (M := []) sort10_nil (by decide +kernel)
 obtain rfl : L8 = [] := by cases L8 with
  | nil => rfl
  | cons x l => cases hL8
 clear OG ht hL8
 replace hbIn := hbIn.ext (xb.trans x4)
 replace xa := xa.trans (xb.trans x4)
 clear xb x4
 have xb := (Ext.refl w8).alloc (.cells #[.string ⟨#[116]⟩, .slice a8 0 c8] 27)
 have hc0' := (Ext.cell (xa.trans xb) (p := ⟨bb, oo, none⟩) hbb).trans hc0
 have heIn : BatIn w8.heap.size ⟨#[116]⟩ (.slice a8 0 c8) (w8.alloc (.cells #[.string ⟨#[116]⟩, .slice a8 0 c8] 27)) := heap_last _ _
 replace hbIn := hbIn.ext xb
 obtain ⟨d0, d1⟩ := hbIn.cells
 obtain ⟨e0, e1⟩ := heIn.cells
 clear heIn hc0
 replace xa := xa.trans xb
 go_wp2_with fail
 (with_reducible refine (CK _ xa).mono ?_)
 rintro e w9 ⟨rfl, x4⟩
 replace hbIn := hbIn.ext x4
 replace xa := xa.trans x4
 clear x4 d0 d1 e0 e1 hc0' xb
 obtain ⟨d0, d1⟩ := hbIn.cells
 go_wp2_with fail
 (with_reducible refine (FB _).mono ?_)
 rintro e w10 ⟨⟨g5, rfl, p1⟩, x1⟩
 go_wp2_with fail
 (with_reducible refine (FA _).mono ?_)
 rintro e w11 ⟨⟨g6, rfl, p2⟩, x2⟩
 have C2 := check10 ⟨#[116]⟩ ⟨#[98]⟩ ⟨#[97]⟩ 1 2 g5 g6 w11 (by decide) (by decide) (by decide) (p1.ext x2) p2
 rw [show checkB ⟨#[116]⟩ [kf10 ⟨#[98]⟩ 1, kf10 ⟨#[97]⟩ 2] = 19 from by decide +kernel] at C2
 clear p1 p2
 go_wp2_with fail
 (with_reducible refine C2.mono ?_)
 rintro e w12 ⟨rfl, x4⟩
 clear C2
 replace hbIn := hbIn.ext (((x1.trans x2).alloc _).trans x4)
 replace xa := ((xa.trans (x1.trans x2)).alloc _).trans x4
 clear x1 x2 x4 d0 d1
 obtain ⟨d0, d1⟩ := hbIn.cells
 go_wp2_with fail
 (with_reducible refine (PO _ xa).mono ?_)
 rintro e w13 ⟨rfl, x4⟩
 replace hbIn := hbIn.ext x4
 replace xa := xa.trans x4
 clear x4 d0 d1
 obtain ⟨d0, d1⟩ := hbIn.cells
 go_wp2_with fail
 (with_reducible refine (SA _ xa).mono ?_)
 rintro e w14 ⟨rfl, x4⟩
 replace hbIn := hbIn.ext x4
 replace xa := xa.trans x4
 clear x4 d0 d1
 obtain ⟨d0, d1⟩ := hbIn.cells
 go_wp2_with fail
 have hfld : ∀ (u : ByteArray) (a : Option Addr) (n c : Nat) (w : World), (Instr.field 27 (.agg #[.string u, .slice a n c]) 0).run Tryz.prog w = .ok (.string u) w := fun _ _ _ _ _ => rfl
 (with_reducible refine (SP _ xa).mono ?_)
 rintro e w15 ⟨⟨va, vn, vc, rfl⟩, x4⟩
 replace xa := xa.trans x4
 clear x4 d0 d1 hbIn
 go_wp2_with fail
 (with_reducible refine (T1 _).mono ?_)
 rintro e w16 ⟨rfl, x4⟩
 replace xa := xa.trans x4
 clear x4
 go_wp2_with fail
 (with_reducible refine (T2 _).mono ?_)
 rintro e w17 ⟨rfl, x4⟩
 replace xa := xa.trans x4
 clear x4
 go_wp2_with fail
 (with_reducible refine (T3 _).mono ?_)
 rintro e w18 ⟨rfl, x4⟩
 replace xa := xa.trans x4
 clear x4
 go_wp2_with fail
 go_ret
 exact ⟨rfl, x3.trans xa⟩
end Go.Proofs.YtjjnmefihdjglaaGreat
