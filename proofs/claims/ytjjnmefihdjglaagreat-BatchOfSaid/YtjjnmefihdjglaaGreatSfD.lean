import Derived.Test.YtjjnmefihdjglaaGreatSfC
import Derived.Deep.DeepCutAuto
namespace Go.Proofs.YtjjnmefihdjglaaGreat
open Go.RowKit
set_option maxHeartbeats 16000000 in
set_option maxRecDepth 100000 in
theorem sym3_f (S : FamD → Prop) (cf : FamD → FamD → Int) (L : Lt (fun x y => decide (cf x y < 0))) (b n c : Nat) (d : Nat → FamD) (w0 w : World) (hb : b < w0.heap.size) (hn : n ≤ 1000) (hX : ExtB b w0 w) (hR : RowE 5 35 FamD.cs b n d w) (hS : ∀ i, i < n → S (d i)) (C : ∀ W x y, ExtB b w0 W → S x → S y → Calls Tryz.prog 40 #[x.v, y.v] W fun e w' => e = .returned (.int .i64 (cf x y)) ∧ Ext W w') (N : Nat) (REC : ∀ (a m e : Nat) (d : Nat → FamD) (w : World), e - a < N → a < m → m < e → e ≤ n → ExtB b w0 w → RowE 5 35 FamD.cs b n d w → (∀ i, i < n → S (d i)) → Sd (fun x y => decide (cf x y < 0)) d a m → Sd (fun x y => decide (cf x y < 0)) d m e → Calls Tryz.prog 104 #[.slice (some ⟨b, 0, none⟩) n c, .int .i64 a, .int .i64 m, .int .i64 e, .func (.func 40) #[] #[]] w fun z w' => z = .returned (.tuple #[]) ∧ ∃ d', Sw a e d d' ∧ Sd (fun x y => decide (cf x y < 0)) d' a e ∧ RowE 5 35 FamD.cs b n d' w' ∧ ExtB b w0 w') (a m e : Nat) (hN : e - a ≤ N) (ham : a + 1 < m) (hme : m + 1 < e) (he : e ≤ n) (h1 : Sd (fun x y => decide (cf x y < 0)) d a m) (h2 : Sd (fun x y => decide (cf x y < 0)) d m e) :
  Calls Tryz.prog 104 #[.slice (some ⟨b, 0, none⟩) n c, .int .i64 a, .int .i64 m, .int .i64 e, .func (.func 40) #[] #[]] w fun z w' => z = .returned (.tuple #[]) ∧ ∃ d', Sw a e d d' ∧ Sd (fun x y => decide (cf x y < 0)) d' a e ∧ RowE 5 35 FamD.cs b n d' w' ∧ ExtB b w0 w' := by
 obtain ⟨ma, hma⟩ : ∃ ma, m - a = ma := ⟨_, rfl⟩
 have em3 : (m : Int) - (a : Int) = (ma : Int) := by omega
 have em4 : IntKind.i64.wrap (ma : Int) = (ma : Int) := IntWalk.i64_in _ (by omega)
 have em5 : ((ma : Int) == 1) = false := by rw [beq_eq_false_iff_ne]; omega
 obtain ⟨me, hme'⟩ : ∃ me, e - m = me := ⟨_, rfl⟩
 have en3 : (e : Int) - (m : Int) = (me : Int) := by omega
 have en4 : IntKind.i64.wrap (me : Int) = (me : Int) := IntWalk.i64_in _ (by omega)
 have en5 : ((me : Int) == 1) = false := by rw [beq_eq_false_iff_ne]; omega
 clear hma hme'
 obtain ⟨mid, hmid⟩ : ∃ mid, (a + e) / 2 = mid := ⟨_, rfl⟩
 have emid : ((a : Int) + (e : Int)) / 2 = (mid : Int) := by omega
 have g1 : a + 1 < mid := by omega
 have g2 : mid + 1 < e := by omega
 have g3 : 2 * mid ≤ a + e := by omega
 have g4 : a + e ≤ 2 * mid + 1 := by omega
 obtain ⟨nn, hnn⟩ : ∃ nn, mid + m = nn := ⟨_, rfl⟩
 have enn : (mid : Int) + (m : Int) = (nn : Int) := by omega
 have wnn : IntKind.i64.wrap (nn : Int) = (nn : Int) := IntWalk.i64_in _ (by omega)
 have g5 : mid + m ≤ nn := by omega
 have g6 : nn ≤ mid + m := by omega
 obtain ⟨pp, hpp⟩ : ∃ pp, nn - 1 = pp := ⟨_, rfl⟩
 have epp : (nn : Int) - 1 = (pp : Int) := by omega
 have wpp : IntKind.i64.wrap (pp : Int) = (pp : Int) := IntWalk.i64_in _ (by omega)
 have g7 : pp + 1 ≤ nn := by omega
 have g8 : nn ≤ pp + 1 := by omega
 obtain ⟨s0, r0, hsr⟩ : ∃ s0 r0 : Nat, Hid ((mid < m ∧ s0 + e = nn ∧ r0 = mid) ∨ (m ≤ mid ∧ s0 = a ∧ r0 = m)) := by
  by_cases h : mid < m
  ·exact ⟨nn - e, mid, Lib.hid (.inl ⟨h, by omega, rfl⟩)⟩
  ·exact ⟨a, m, Lib.hid (.inr ⟨by omega, rfl, rfl⟩)⟩
 have g9 : a ≤ s0 ∧ s0 ≤ r0 ∧ r0 ≤ m ∧ r0 + m ≤ nn ∧ nn ≤ s0 + e := by have := hsr.out; omega
 obtain ⟨g9, g10, g11, g12, g13⟩ := g9
 clear hnn hpp hmid
 go_enter Tryz.func104, Tryz.ntmps104
 go_upto_if 140 with fail
 go_cut [20, 21] (fun u v wx => u = .int .i64 s0 ∧ v = .int .i64 r0 ∧ RowE 5 35 FamD.cs b n d wx ∧ ExtB b w0 wx)
 case first =>
  as_aux_lemma =>
  rcases hsr.out with ⟨k1, k2, k3⟩ | ⟨k1, k2, k3⟩
  ·have k4 : (mid : Int) < (m : Int) := by omega
   have k5 : (nn : Int) - (e : Int) = (s0 : Int) := by omega
   have k6 : IntKind.i64.wrap (s0 : Int) = (s0 : Int) := IntWalk.i64_in _ (by omega)
   replace k3 := Lib.hid k3
   clear k2
   go_wp2_with fail
   go_meet
   case rel => exact ⟨rfl, by rw [k3.out], hR, hX⟩
  ·have k4 : ¬ (mid : Int) < (m : Int) := by omega
   replace k3 := Lib.hid k3
   replace k2 := Lib.hid k2
   go_wp2_with fail
   go_meet
   case rel => exact ⟨by rw [k2.out], by rw [k3.out], hR, hX⟩
 case rest =>
 as_aux_lemma =>
 obtain ⟨rfl, rfl, HR0, HX0⟩ := hcut
 clear hR hX
 go_wp2_with fail
 go_loopw [20, 21] (fun vi vj wr => ∃ (i j : Nat), vi = .int .i64 i ∧ vj = .int .i64 j ∧ s0 ≤ i ∧ i ≤ j ∧ j ≤ r0 ∧ Hid ((i = s0 ∨ (fun x y => decide (cf x y < 0)) (d (nn - i)) (d (i - 1)) = false) ∧ (j = r0 ∨ (fun x y => decide (cf x y < 0)) (d (nn - j - 1)) (d j) = true)) ∧ RowE 5 35 FamD.cs b n d wr ∧ ExtB b w0 wr) (fun vi vj _ => (intOf vj).toNat - (intOf vi).toNat)
 case atStart => exact ⟨s0, r0, rfl, rfl, by omega, by omega, by omega, Lib.hid ⟨Or.inl rfl, Or.inl rfl⟩, HR0, HX0⟩
 case round =>
  as_aux_lemma =>
  obtain ⟨i, j, rfl, rfl, hi, hij, hj, HQ, HR', HX'⟩ := hrel
  clear HR0 HX0
  by_cases hlt : i < j
  ·have ilt : (i : Int) < (j : Int) := by omega
   obtain ⟨h, hh⟩ : ∃ h, (i + j) / 2 = h := ⟨_, rfl⟩
   have eh : ((i : Int) + (j : Int)) / 2 = (h : Int) := by omega
   have hb1 : i ≤ h := by omega
   have hb2 : h < j := by omega
   obtain ⟨x, hx⟩ : ∃ x, pp - h = x := ⟨_, rfl⟩
   have ex : (pp : Int) - (h : Int) = (x : Int) := by omega
   have hb3 : x + 1 = nn - h := by omega
   replace hb3 := Lib.hid hb3
   clear hx
   have hku : x < n := by omega
   have hk0 : h < n := by omega
   obtain ⟨p, hp⟩ : ∃ p, d x = p := ⟨_, rfl⟩
   obtain ⟨q, hq⟩ : ∃ q, d h = q := ⟨_, rfl⟩
   have C1 := fun W h => C W p q h (hp ▸ hS _ hku) (hq ▸ hS _ hk0)
   obtain ⟨cv, hcv⟩ : ∃ cv, cf p q = cv := ⟨_, rfl⟩
   rw [hcv] at C1
   unfold FamD.v at C1
   have b1 : (x : Int) < (n : Int) := by omega
   have b2 : (h : Int) < (n : Int) := by omega
   have b3 : IntKind.i64.wrap (x : Int) = (x : Int) := IntWalk.i64_in _ (by omega)
   have b4 : IntKind.i64.wrap (h : Int) = (h : Int) := IntWalk.i64_in _ (by omega)
   have b5 : IntKind.i64.wrap ((x : Int) + 1) = (x : Int) + 1 := IntWalk.i64_in _ (by omega)
   have b6 : IntKind.i64.wrap ((h : Int) + 1) = (h : Int) + 1 := IntWalk.i64_in _ (by omega)
   by_cases h0 : cv < 0
   ·as_aux_lemma =>
    have hgo : Hid ((i = s0 ∨ (fun x y => decide (cf x y < 0)) (d (nn - i)) (d (i - 1)) = false) ∧ (h = r0 ∨ (fun x y => decide (cf x y < 0)) (d (nn - h - 1)) (d h) = true)) := Lib.hid ⟨HQ.out.1, Or.inr (by rw [← hb3.out, Nat.add_sub_cancel, hp, hq]; show decide (cf p q < 0) = true; rw [hcv]; exact decide_eq_true h0)⟩
    have hd : (!decide (cv < 0)) = false := by rw [decide_eq_true h0]; rfl
    clear HQ hcv hh
    go_wp2_with fail
    refine wp_region_held_drew (S := (fun W => RowE 5 35 FamD.cs b n d W ∧ ExtB b w0 W)) (by kernel_rfl) (⟨HR'.drew, HX'.drew⟩) (fun hHeld => ?_)
    refine wpAnyH_take (i := 0) (oi := ?oim47) (v := ?vm47) ?him47 (by kernel_rfl) (by kernel_rfl) (by kernel_rfl) ?hQm47 (Or.inl ⟨?hwm47, ?hym47⟩) hHeld ?restm47
    case him47 => simp only [List.getElem?_toArray, List.getElem?_cons_zero]; rfl
    case hQm47 => exact fun _ _ _ h => h
    case hwm47 => rfl
    case hym47 => (intro w9 hSw; skip; go_simp; (try with_reducible rfl))
    case restm47 =>
    try simp only [Act.put, List.setIfInBounds_toArray, List.set_cons_zero, List.set_cons_succ]
    refine wpAnyH_take (i := 1) (oi := ?oim48) (v := ?vm48) ?him48 (by kernel_rfl) (by kernel_rfl) (by kernel_rfl) ?hQm48 (Or.inl ⟨?hwm48, ?hym48⟩) hHeld ?restm48
    case him48 => simp only [List.getElem?_toArray, List.getElem?_cons_succ, List.getElem?_cons_zero]; rfl
    case hQm48 => exact fun _ _ _ h => h
    case hwm48 => rfl
    case hym48 => (intro w9 hSw; skip; go_simp; (try with_reducible rfl))
    case restm48 =>
    try simp only [Act.put, List.setIfInBounds_toArray, List.set_cons_zero, List.set_cons_succ]
    refine wpAnyH_take (i := 2) (oi := ?oim49) (v := ?vm49) ?him49 (by kernel_rfl) (by kernel_rfl) (by kernel_rfl) ?hQm49 (Or.inl ⟨?hwm49, ?hym49⟩) hHeld ?restm49
    case him49 => simp only [List.getElem?_toArray, List.getElem?_cons_succ, List.getElem?_cons_zero]; rfl
    case hQm49 => exact fun _ _ _ h => h
    case hwm49 => rfl
    case hym49 => (intro w9 hSw; skip; go_simp; (try with_reducible rfl))
    case restm49 =>
    try simp only [Act.put, List.setIfInBounds_toArray, List.set_cons_zero, List.set_cons_succ]
    refine wpAnyH_take (i := 3) (oi := ?oim50) (v := ?vm50) ?him50 (by kernel_rfl) (by kernel_rfl) (by kernel_rfl) ?hQm50 (Or.inl ⟨?hwm50, ?hym50⟩) hHeld ?restm50
    case him50 => simp only [List.getElem?_toArray, List.getElem?_cons_succ, List.getElem?_cons_zero]; rfl
    case hQm50 => exact fun _ _ _ h => h
    case hwm50 => rfl
    case hym50 => (intro w9 hSw; skip; go_simp; (try with_reducible rfl))
    case restm50 =>
    try simp only [Act.put, List.setIfInBounds_toArray, List.set_cons_zero, List.set_cons_succ]
    refine wpAnyH_take (i := 4) (oi := ?oim51) (v := ?vm51) ?him51 (by kernel_rfl) (by kernel_rfl) (by kernel_rfl) ?hQm51 (Or.inl ⟨?hwm51, ?hym51⟩) hHeld ?restm51
    case him51 => simp only [List.getElem?_toArray, List.getElem?_cons_succ, List.getElem?_cons_zero]; rfl
    case hQm51 => exact fun _ _ _ h => h
    case hwm51 => rfl
    case hym51 => (intro w9 hSw; skip; go_simp; (try with_reducible rfl))
    case restm51 =>
    try simp only [Act.put, List.setIfInBounds_toArray, List.set_cons_zero, List.set_cons_succ]
    refine wpAnyH_take (i := 5) (oi := ?oim52) (v := ?vm52) ?him52 (by kernel_rfl) (by kernel_rfl) (by kernel_rfl) ?hQm52 (Or.inl ⟨?hwm52, ?hym52⟩) hHeld ?restm52
    case him52 => simp only [List.getElem?_toArray, List.getElem?_cons_succ, List.getElem?_cons_zero]; rfl
    case hQm52 => exact fun _ _ _ h => h
    case hwm52 => rfl
    case hym52 => (intro w9 hSw; skip; go_simp; (try with_reducible rfl))
    case restm52 =>
    try simp only [Act.put, List.setIfInBounds_toArray, List.set_cons_zero, List.set_cons_succ]
    refine wpAnyH_take (i := 6) (oi := ?oim53) (v := ?vm53) ?him53 (by kernel_rfl) (by kernel_rfl) (by kernel_rfl) ?hQm53 (Or.inl ⟨?hwm53, ?hym53⟩) hHeld ?restm53
    case him53 => simp only [List.getElem?_toArray, List.getElem?_cons_succ, List.getElem?_cons_zero]; rfl
    case hQm53 => exact fun _ _ _ h => h
    case hwm53 => rfl
    case hym53 => (intro w9 hSw; have p0 : w9.cell? ⟨b, x * 5, none⟩ = some (.string p.nm) := hSw.1.cell x 0 _ hku (by decide) (by rw [hp]; rfl); have p1 : w9.cell? ⟨b, x * 5 + 1, none⟩ = some (.int .i64 p.k) := hSw.1.cell x 1 _ hku (by decide) (by rw [hp]; rfl); have p2 : w9.cell? ⟨b, x * 5 + 2, none⟩ = some (.string p.un) := hSw.1.cell x 2 _ hku (by decide) (by rw [hp]; rfl); have p3 : w9.cell? ⟨b, x * 5 + 3, none⟩ = some (.string p.he) := hSw.1.cell x 3 _ hku (by decide) (by rw [hp]; rfl); have p4 : w9.cell? ⟨b, x * 5 + 4, none⟩ = some (.slice p.pa p.ps.length p.pc) := hSw.1.cell x 4 _ hku (by decide) (by rw [hp]; rfl); go_simp; (try with_reducible rfl))
    case restm53 =>
    try simp only [Act.put, List.setIfInBounds_toArray, List.set_cons_zero, List.set_cons_succ]
    refine wpAnyH_take (i := 7) (oi := ?oim54) (v := ?vm54) ?him54 (by kernel_rfl) (by kernel_rfl) (by kernel_rfl) ?hQm54 (Or.inl ⟨?hwm54, ?hym54⟩) hHeld ?restm54
    case him54 => simp only [List.getElem?_toArray, List.getElem?_cons_succ, List.getElem?_cons_zero]; rfl
    case hQm54 => exact fun _ _ _ h => h
    case hwm54 => rfl
    case hym54 => (intro w9 hSw; skip; go_simp; (try with_reducible rfl))
    case restm54 =>
    try simp only [Act.put, List.setIfInBounds_toArray, List.set_cons_zero, List.set_cons_succ]
    refine wpAnyH_take (i := 8) (oi := ?oim55) (v := ?vm55) ?him55 (by kernel_rfl) (by kernel_rfl) (by kernel_rfl) ?hQm55 (Or.inl ⟨?hwm55, ?hym55⟩) hHeld ?restm55
    case him55 => simp only [List.getElem?_toArray, List.getElem?_cons_succ, List.getElem?_cons_zero]; rfl
    case hQm55 => exact fun _ _ _ h => h
    case hwm55 => rfl
    case hym55 => (intro w9 hSw; skip; go_simp; (try with_reducible rfl))
    case restm55 =>
    try simp only [Act.put, List.setIfInBounds_toArray, List.set_cons_zero, List.set_cons_succ]
    refine wpAnyH_take (i := 9) (oi := ?oim56) (v := ?vm56) ?him56 (by kernel_rfl) (by kernel_rfl) (by kernel_rfl) ?hQm56 (Or.inl ⟨?hwm56, ?hym56⟩) hHeld ?restm56
    case him56 => simp only [List.getElem?_toArray, List.getElem?_cons_succ, List.getElem?_cons_zero]; rfl
    case hQm56 => exact fun _ _ _ h => h
    case hwm56 => rfl
    case hym56 => (intro w9 hSw; skip; go_simp; (try with_reducible rfl))
    case restm56 =>
    try simp only [Act.put, List.setIfInBounds_toArray, List.set_cons_zero, List.set_cons_succ]
    refine wpAnyH_take (i := 10) (oi := ?oim57) (v := ?vm57) ?him57 (by kernel_rfl) (by kernel_rfl) (by kernel_rfl) ?hQm57 (Or.inl ⟨?hwm57, ?hym57⟩) hHeld ?restm57
    case him57 => simp only [List.getElem?_toArray, List.getElem?_cons_succ, List.getElem?_cons_zero]; rfl
    case hQm57 => exact fun _ _ _ h => h
    case hwm57 => rfl
    case hym57 => (intro w9 hSw; have q0 : w9.cell? ⟨b, h * 5, none⟩ = some (.string q.nm) := hSw.1.cell h 0 _ hk0 (by decide) (by rw [hq]; rfl); have q1 : w9.cell? ⟨b, h * 5 + 1, none⟩ = some (.int .i64 q.k) := hSw.1.cell h 1 _ hk0 (by decide) (by rw [hq]; rfl); have q2 : w9.cell? ⟨b, h * 5 + 2, none⟩ = some (.string q.un) := hSw.1.cell h 2 _ hk0 (by decide) (by rw [hq]; rfl); have q3 : w9.cell? ⟨b, h * 5 + 3, none⟩ = some (.string q.he) := hSw.1.cell h 3 _ hk0 (by decide) (by rw [hq]; rfl); have q4 : w9.cell? ⟨b, h * 5 + 4, none⟩ = some (.slice q.pa q.ps.length q.pc) := hSw.1.cell h 4 _ hk0 (by decide) (by rw [hq]; rfl); go_simp; (try with_reducible rfl))
    case restm57 =>
    try simp only [Act.put, List.setIfInBounds_toArray, List.set_cons_zero, List.set_cons_succ]
    refine wpAnyH_ready (rs := [11]) (by kernel_rfl) (by simp) (AllReadyH.cons (o := ?om58) ?im58 (fun K hK => ?_) AllReadyH.nil)
    case im58 => simp only [List.getElem?_toArray, List.getElem?_cons_succ, List.getElem?_cons_zero]; rfl
    rw [if_pos (by rfl)]
    go_simp
    go_at_call 40
    (with_reducible refine (C1 _ hHeld.2).mono ?_)
    rintro e wz ⟨rfl, xz⟩
    refine hK.out _ _ (⟨hHeld.1.ext xz, hHeld.2.ext xz hb⟩) (fun hHeld => ?_)
    clear hK K
    try simp only [List.setIfInBounds_toArray, List.set_cons_zero, List.set_cons_succ]
    refine wpAnyH_take (i := 12) (oi := ?oim59) (v := ?vm59) ?him59 (by kernel_rfl) (by kernel_rfl) (by kernel_rfl) ?hQm59 (Or.inl ⟨?hwm59, ?hym59⟩) hHeld ?restm59
    case him59 => simp only [List.getElem?_toArray, List.getElem?_cons_succ, List.getElem?_cons_zero]; rfl
    case hQm59 => exact fun _ _ _ h => h
    case hwm59 => rfl
    case hym59 => (intro w9 hSw; skip; go_simp; (try with_reducible rfl))
    case restm59 =>
    try simp only [Act.put, List.setIfInBounds_toArray, List.set_cons_zero, List.set_cons_succ]
    refine wpAnyH_take (i := 13) (oi := ?oim60) (v := ?vm60) ?him60 (by kernel_rfl) (by kernel_rfl) (by kernel_rfl) ?hQm60 (Or.inl ⟨?hwm60, ?hym60⟩) hHeld ?restm60
    case him60 => simp only [List.getElem?_toArray, List.getElem?_cons_succ, List.getElem?_cons_zero]; rfl
    case hQm60 => exact fun _ _ _ h => h
    case hwm60 => rfl
    case hym60 => (intro w9 hSw; skip; go_simp; (try with_reducible rfl))
    case restm60 =>
    try simp only [Act.put, List.setIfInBounds_toArray, List.set_cons_zero, List.set_cons_succ]
    refine wpAnyH_done (by kernel_rfl) ?_ _
    clear hp hq C1 HR' HX' eh ilt ex
    go_wp2_with fail
    go_roundw
    case rel => exact ⟨i, h, rfl, rfl, by omega, by omega, by omega, hgo, hHeld.1, hHeld.2⟩
    case measure => simp only [intOf]; omega
   ·as_aux_lemma =>
    have hgo : Hid ((h + 1 = s0 ∨ (fun x y => decide (cf x y < 0)) (d (nn - (h + 1))) (d (h + 1 - 1)) = false) ∧ (j = r0 ∨ (fun x y => decide (cf x y < 0)) (d (nn - j - 1)) (d j) = true)) := Lib.hid ⟨Or.inr (by rw [← Nat.sub_sub, ← hb3.out, Nat.add_sub_cancel, Nat.add_sub_cancel, hp, hq]; show decide (cf p q < 0) = false; rw [hcv]; exact decide_eq_false h0), HQ.out.2⟩
    have hd : (!decide (cv < 0)) = true := by rw [decide_eq_false h0]; rfl
    clear HQ hcv hh
    go_wp2_with fail
    refine wp_region_held_drew (S := (fun W => RowE 5 35 FamD.cs b n d W ∧ ExtB b w0 W)) (by kernel_rfl) (⟨HR'.drew, HX'.drew⟩) (fun hHeld => ?_)
    refine wpAnyH_take (i := 0) (oi := ?oim61) (v := ?vm61) ?him61 (by kernel_rfl) (by kernel_rfl) (by kernel_rfl) ?hQm61 (Or.inl ⟨?hwm61, ?hym61⟩) hHeld ?restm61
    case him61 => simp only [List.getElem?_toArray, List.getElem?_cons_zero]; rfl
    case hQm61 => exact fun _ _ _ h => h
    case hwm61 => rfl
    case hym61 => (intro w9 hSw; skip; go_simp; (try with_reducible rfl))
    case restm61 =>
    try simp only [Act.put, List.setIfInBounds_toArray, List.set_cons_zero, List.set_cons_succ]
    refine wpAnyH_take (i := 1) (oi := ?oim62) (v := ?vm62) ?him62 (by kernel_rfl) (by kernel_rfl) (by kernel_rfl) ?hQm62 (Or.inl ⟨?hwm62, ?hym62⟩) hHeld ?restm62
    case him62 => simp only [List.getElem?_toArray, List.getElem?_cons_succ, List.getElem?_cons_zero]; rfl
    case hQm62 => exact fun _ _ _ h => h
    case hwm62 => rfl
    case hym62 => (intro w9 hSw; skip; go_simp; (try with_reducible rfl))
    case restm62 =>
    try simp only [Act.put, List.setIfInBounds_toArray, List.set_cons_zero, List.set_cons_succ]
    refine wpAnyH_take (i := 2) (oi := ?oim63) (v := ?vm63) ?him63 (by kernel_rfl) (by kernel_rfl) (by kernel_rfl) ?hQm63 (Or.inl ⟨?hwm63, ?hym63⟩) hHeld ?restm63
    case him63 => simp only [List.getElem?_toArray, List.getElem?_cons_succ, List.getElem?_cons_zero]; rfl
    case hQm63 => exact fun _ _ _ h => h
    case hwm63 => rfl
    case hym63 => (intro w9 hSw; skip; go_simp; (try with_reducible rfl))
    case restm63 =>
    try simp only [Act.put, List.setIfInBounds_toArray, List.set_cons_zero, List.set_cons_succ]
    refine wpAnyH_take (i := 3) (oi := ?oim64) (v := ?vm64) ?him64 (by kernel_rfl) (by kernel_rfl) (by kernel_rfl) ?hQm64 (Or.inl ⟨?hwm64, ?hym64⟩) hHeld ?restm64
    case him64 => simp only [List.getElem?_toArray, List.getElem?_cons_succ, List.getElem?_cons_zero]; rfl
    case hQm64 => exact fun _ _ _ h => h
    case hwm64 => rfl
    case hym64 => (intro w9 hSw; skip; go_simp; (try with_reducible rfl))
    case restm64 =>
    try simp only [Act.put, List.setIfInBounds_toArray, List.set_cons_zero, List.set_cons_succ]
    refine wpAnyH_take (i := 4) (oi := ?oim65) (v := ?vm65) ?him65 (by kernel_rfl) (by kernel_rfl) (by kernel_rfl) ?hQm65 (Or.inl ⟨?hwm65, ?hym65⟩) hHeld ?restm65
    case him65 => simp only [List.getElem?_toArray, List.getElem?_cons_succ, List.getElem?_cons_zero]; rfl
    case hQm65 => exact fun _ _ _ h => h
    case hwm65 => rfl
    case hym65 => (intro w9 hSw; skip; go_simp; (try with_reducible rfl))
    case restm65 =>
    try simp only [Act.put, List.setIfInBounds_toArray, List.set_cons_zero, List.set_cons_succ]
    refine wpAnyH_take (i := 5) (oi := ?oim66) (v := ?vm66) ?him66 (by kernel_rfl) (by kernel_rfl) (by kernel_rfl) ?hQm66 (Or.inl ⟨?hwm66, ?hym66⟩) hHeld ?restm66
    case him66 => simp only [List.getElem?_toArray, List.getElem?_cons_succ, List.getElem?_cons_zero]; rfl
    case hQm66 => exact fun _ _ _ h => h
    case hwm66 => rfl
    case hym66 => (intro w9 hSw; skip; go_simp; (try with_reducible rfl))
    case restm66 =>
    try simp only [Act.put, List.setIfInBounds_toArray, List.set_cons_zero, List.set_cons_succ]
    refine wpAnyH_take (i := 6) (oi := ?oim67) (v := ?vm67) ?him67 (by kernel_rfl) (by kernel_rfl) (by kernel_rfl) ?hQm67 (Or.inl ⟨?hwm67, ?hym67⟩) hHeld ?restm67
    case him67 => simp only [List.getElem?_toArray, List.getElem?_cons_succ, List.getElem?_cons_zero]; rfl
    case hQm67 => exact fun _ _ _ h => h
    case hwm67 => rfl
    case hym67 => (intro w9 hSw; have p0 : w9.cell? ⟨b, x * 5, none⟩ = some (.string p.nm) := hSw.1.cell x 0 _ hku (by decide) (by rw [hp]; rfl); have p1 : w9.cell? ⟨b, x * 5 + 1, none⟩ = some (.int .i64 p.k) := hSw.1.cell x 1 _ hku (by decide) (by rw [hp]; rfl); have p2 : w9.cell? ⟨b, x * 5 + 2, none⟩ = some (.string p.un) := hSw.1.cell x 2 _ hku (by decide) (by rw [hp]; rfl); have p3 : w9.cell? ⟨b, x * 5 + 3, none⟩ = some (.string p.he) := hSw.1.cell x 3 _ hku (by decide) (by rw [hp]; rfl); have p4 : w9.cell? ⟨b, x * 5 + 4, none⟩ = some (.slice p.pa p.ps.length p.pc) := hSw.1.cell x 4 _ hku (by decide) (by rw [hp]; rfl); go_simp; (try with_reducible rfl))
    case restm67 =>
    try simp only [Act.put, List.setIfInBounds_toArray, List.set_cons_zero, List.set_cons_succ]
    refine wpAnyH_take (i := 7) (oi := ?oim68) (v := ?vm68) ?him68 (by kernel_rfl) (by kernel_rfl) (by kernel_rfl) ?hQm68 (Or.inl ⟨?hwm68, ?hym68⟩) hHeld ?restm68
    case him68 => simp only [List.getElem?_toArray, List.getElem?_cons_succ, List.getElem?_cons_zero]; rfl
    case hQm68 => exact fun _ _ _ h => h
    case hwm68 => rfl
    case hym68 => (intro w9 hSw; skip; go_simp; (try with_reducible rfl))
    case restm68 =>
    try simp only [Act.put, List.setIfInBounds_toArray, List.set_cons_zero, List.set_cons_succ]
    refine wpAnyH_take (i := 8) (oi := ?oim69) (v := ?vm69) ?him69 (by kernel_rfl) (by kernel_rfl) (by kernel_rfl) ?hQm69 (Or.inl ⟨?hwm69, ?hym69⟩) hHeld ?restm69
    case him69 => simp only [List.getElem?_toArray, List.getElem?_cons_succ, List.getElem?_cons_zero]; rfl
    case hQm69 => exact fun _ _ _ h => h
    case hwm69 => rfl
    case hym69 => (intro w9 hSw; skip; go_simp; (try with_reducible rfl))
    case restm69 =>
    try simp only [Act.put, List.setIfInBounds_toArray, List.set_cons_zero, List.set_cons_succ]
    refine wpAnyH_take (i := 9) (oi := ?oim70) (v := ?vm70) ?him70 (by kernel_rfl) (by kernel_rfl) (by kernel_rfl) ?hQm70 (Or.inl ⟨?hwm70, ?hym70⟩) hHeld ?restm70
    case him70 => simp only [List.getElem?_toArray, List.getElem?_cons_succ, List.getElem?_cons_zero]; rfl
    case hQm70 => exact fun _ _ _ h => h
    case hwm70 => rfl
    case hym70 => (intro w9 hSw; skip; go_simp; (try with_reducible rfl))
    case restm70 =>
    try simp only [Act.put, List.setIfInBounds_toArray, List.set_cons_zero, List.set_cons_succ]
    refine wpAnyH_take (i := 10) (oi := ?oim71) (v := ?vm71) ?him71 (by kernel_rfl) (by kernel_rfl) (by kernel_rfl) ?hQm71 (Or.inl ⟨?hwm71, ?hym71⟩) hHeld ?restm71
    case him71 => simp only [List.getElem?_toArray, List.getElem?_cons_succ, List.getElem?_cons_zero]; rfl
    case hQm71 => exact fun _ _ _ h => h
    case hwm71 => rfl
    case hym71 => (intro w9 hSw; have q0 : w9.cell? ⟨b, h * 5, none⟩ = some (.string q.nm) := hSw.1.cell h 0 _ hk0 (by decide) (by rw [hq]; rfl); have q1 : w9.cell? ⟨b, h * 5 + 1, none⟩ = some (.int .i64 q.k) := hSw.1.cell h 1 _ hk0 (by decide) (by rw [hq]; rfl); have q2 : w9.cell? ⟨b, h * 5 + 2, none⟩ = some (.string q.un) := hSw.1.cell h 2 _ hk0 (by decide) (by rw [hq]; rfl); have q3 : w9.cell? ⟨b, h * 5 + 3, none⟩ = some (.string q.he) := hSw.1.cell h 3 _ hk0 (by decide) (by rw [hq]; rfl); have q4 : w9.cell? ⟨b, h * 5 + 4, none⟩ = some (.slice q.pa q.ps.length q.pc) := hSw.1.cell h 4 _ hk0 (by decide) (by rw [hq]; rfl); go_simp; (try with_reducible rfl))
    case restm71 =>
    try simp only [Act.put, List.setIfInBounds_toArray, List.set_cons_zero, List.set_cons_succ]
    refine wpAnyH_ready (rs := [11]) (by kernel_rfl) (by simp) (AllReadyH.cons (o := ?om72) ?im72 (fun K hK => ?_) AllReadyH.nil)
    case im72 => simp only [List.getElem?_toArray, List.getElem?_cons_succ, List.getElem?_cons_zero]; rfl
    rw [if_pos (by rfl)]
    go_simp
    go_at_call 40
    (with_reducible refine (C1 _ hHeld.2).mono ?_)
    rintro e wz ⟨rfl, xz⟩
    refine hK.out _ _ (⟨hHeld.1.ext xz, hHeld.2.ext xz hb⟩) (fun hHeld => ?_)
    clear hK K
    try simp only [List.setIfInBounds_toArray, List.set_cons_zero, List.set_cons_succ]
    refine wpAnyH_take (i := 12) (oi := ?oim73) (v := ?vm73) ?him73 (by kernel_rfl) (by kernel_rfl) (by kernel_rfl) ?hQm73 (Or.inl ⟨?hwm73, ?hym73⟩) hHeld ?restm73
    case him73 => simp only [List.getElem?_toArray, List.getElem?_cons_succ, List.getElem?_cons_zero]; rfl
    case hQm73 => exact fun _ _ _ h => h
    case hwm73 => rfl
    case hym73 => (intro w9 hSw; skip; go_simp; (try with_reducible rfl))
    case restm73 =>
    try simp only [Act.put, List.setIfInBounds_toArray, List.set_cons_zero, List.set_cons_succ]
    refine wpAnyH_take (i := 13) (oi := ?oim74) (v := ?vm74) ?him74 (by kernel_rfl) (by kernel_rfl) (by kernel_rfl) ?hQm74 (Or.inl ⟨?hwm74, ?hym74⟩) hHeld ?restm74
    case him74 => simp only [List.getElem?_toArray, List.getElem?_cons_succ, List.getElem?_cons_zero]; rfl
    case hQm74 => exact fun _ _ _ h => h
    case hwm74 => rfl
    case hym74 => (intro w9 hSw; skip; go_simp; (try with_reducible rfl))
    case restm74 =>
    try simp only [Act.put, List.setIfInBounds_toArray, List.set_cons_zero, List.set_cons_succ]
    refine wpAnyH_done (by kernel_rfl) ?_ _
    clear hp hq C1 HR' HX' eh ilt ex
    go_wp2_with fail
    go_roundw
    case rel => exact ⟨h + 1, j, rfl, rfl, by omega, by omega, hj, hgo, hHeld.1, hHeld.2⟩
    case measure => simp only [intOf]; omega
  ·have ilt : ¬ (i : Int) < (j : Int) := by omega
   obtain rfl : i = j := by omega
   obtain ⟨en, hen⟩ : ∃ en, nn - i = en := ⟨_, rfl⟩
   have een : (nn : Int) - (i : Int) = (en : Int) := by omega
   have wen : IntKind.i64.wrap (en : Int) = (en : Int) := IntWalk.i64_in _ (by omega)
   have HH := rotF_halves L d a m e i en mid h1 h2 (by omega) (by omega) (by omega) (by omega) (by omega)
    (by rcases hsr.out with ⟨k1, k2, k3⟩ | ⟨k1, k2, k3⟩
        ·rcases HQ.out.1 with q | q
         ·exact .inr (.inl (by omega))
         ·exact .inr (.inr (by rw [← hen]; exact q))
        ·rcases HQ.out.1 with q | q
         ·exact .inl (by omega)
         ·exact .inr (.inr (by rw [← hen]; exact q)))
    (by rcases hsr.out with ⟨k1, k2, k3⟩ | ⟨k1, k2, k3⟩
        ·rcases HQ.out.2 with q | q
         ·exact .inr (.inl (by omega))
         ·exact .inr (.inr (by rw [← hen]; exact q))
        ·rcases HQ.out.2 with q | q
         ·exact .inl (by omega)
         ·exact .inr (.inr (by rw [← hen]; exact q)))
   have l1 : i ≤ m := by omega
   have l2 : m ≤ en := by omega
   have l3 : en ≤ e := by omega
   have l4 : i ≤ mid := by omega
   have l5 : mid ≤ en := by omega
   have l6 : a ≤ i := by omega
   have ROT := fun (hi : i < m) (he2 : m < en) => rot_f b n c i m en d w0 wr (.func (.func 40) #[] #[]) hb hn hi he2 (by omega) HX' HR'
   have NOROT : ¬ (i < m ∧ m < en) → rotF d i m en = d := fun h => by
    by_cases q : i < m
    ·obtain rfl : en = m := by omega
     exact rotF_none_right d i en
    ·obtain rfl : i = m := by omega
     exact rotF_none_left d i en l2
   replace NOROT := Lib.hid NOROT
   obtain ⟨f, hf⟩ : ∃ f, rotF d i m en = f := ⟨_, rfl⟩
   rw [hf] at ROT HH NOROT
   replace HH := Lib.hid HH
   clear HQ hf hen
   go_upto_region 39 with fail
   go_cut [185] (fun u wx => u = .bool (decide (i < m ∧ m < en)) ∧ wx = wr)
   case first =>
    as_aux_lemma =>
    by_cases q : i < m
    ·have q1 : (i : Int) < (m : Int) := by omega
     go_wp2_with fail
     go_meet
     case rel => exact ⟨vB (decide_eq_decide.2 (by omega)), rfl⟩
    ·have q1 : ¬ (i : Int) < (m : Int) := by omega
     go_wp2_with fail
     go_meet
     case rel => exact ⟨vB (decide_eq_false (by omega)).symm, rfl⟩
   case rest =>
   as_aux_lemma =>
   obtain ⟨rfl, hwx⟩ := hcut
   subst hwx
   go_upto_if 185 with fail
   go_cut [] (fun wx => RowE 5 35 FamD.cs b n f wx ∧ ExtB b w0 wx ∧ Sw a e d f)
   case first =>
    as_aux_lemma =>
    by_cases hrot : i < m ∧ m < en
    ·have C0 := ROT hrot.1 hrot.2
     have k1 : decide (i < m ∧ m < en) = true := decide_eq_true hrot
     go_wp2_with fail
     (with_reducible refine C0.mono ?_)
     rintro z w1 ⟨rfl, H3, H4, H5⟩
     go_wp2_with fail
     go_meet
     case rel => exact ⟨H3, H5, H4.mono (by omega) (by omega)⟩
    ·have k1 : decide (i < m ∧ m < en) = false := decide_eq_false hrot
     have k2 := NOROT.out hrot
     go_wp2_with fail
     go_meet
     case rel => exact ⟨by rw [k2]; exact HR', HX', by rw [k2]; exact .refl⟩
   case rest =>
   as_aux_lemma =>
   obtain ⟨HR2, HX2, SW1⟩ := hcut
   clear HR' HX' ROT NOROT
   have RC1 := fun (h1 : a < i) (h2 : i < mid) => REC a i mid f wc (by omega) h1 h2 (by omega) HX2 HR2 (SW1.all he hS) HH.out.1 HH.out.2.1
   replace SW1 := Lib.hid SW1
   go_upto_region 41 with fail
   go_cut [199] (fun u wx => u = .bool (decide (a < i ∧ i < mid)) ∧ wx = wc)
   case first =>
    as_aux_lemma =>
    by_cases q : a < i
    ·have q1 : (a : Int) < (i : Int) := by omega
     go_wp2_with fail
     go_meet
     case rel => exact ⟨vB (decide_eq_decide.2 (by omega)), rfl⟩
    ·have q1 : ¬ (a : Int) < (i : Int) := by omega
     go_wp2_with fail
     go_meet
     case rel => exact ⟨vB (decide_eq_false (by omega)).symm, rfl⟩
   case rest =>
   as_aux_lemma =>
   obtain ⟨rfl, hwx⟩ := hcut
   subst hwx
   go_upto_if 199 with fail
   go_cut [] (fun wx => ∃ g, Sw a mid f g ∧ Sd (fun x y => decide (cf x y < 0)) g a mid ∧ RowE 5 35 FamD.cs b n g wx ∧ ExtB b w0 wx)
   case first =>
    as_aux_lemma =>
    by_cases hrc : a < i ∧ i < mid
    ·have C0 := RC1 hrc.1 hrc.2
     have k1 : decide (a < i ∧ i < mid) = true := decide_eq_true hrc
     clear RC1
     go_wp2_with fail
     (with_reducible refine C0.mono ?_)
     rintro z w1 ⟨rfl, g, k2, k3, k4, k5⟩
     go_wp2_with fail
     go_meet
     case rel => exact ⟨g, k2, k3, k4, k5⟩
    ·have k1 : decide (a < i ∧ i < mid) = false := decide_eq_false hrc
     have k2 : Sd (fun x y => decide (cf x y < 0)) f a mid := by
      by_cases q : a < i
      ·obtain rfl : i = mid := by omega
       exact HH.out.1
      ·obtain rfl : a = i := by omega
       exact HH.out.2.1
     replace k2 := Lib.hid k2
     clear RC1
     go_wp2_with fail
     go_meet
     case rel => exact ⟨f, .refl, k2.out, HR2, HX2⟩
   case rest =>
   as_aux_lemma =>
   obtain ⟨g, G1, G2, HR3, HX3⟩ := hcut
   clear HR2 HX2 RC1
   have SG := SW1.out.trans (G1.mono (Nat.le_refl _) (by omega : mid ≤ e))
   have s3 := HH.out.2.2.1.congr (fun x h1 _ => G1.out x (.inr h1))
   have s4 := HH.out.2.2.2.1.congr (fun x h1 _ => G1.out x (.inr (by omega)))
   have RC2 := fun (h1 : mid < en) (h2 : en < e) w1 hx hr => REC mid en e g w1 (by omega) h1 h2 (by omega) hx hr (SG.all he hS) s3 s4
   have FIN : ∀ h, Sw mid e g h → Sd (fun x y => decide (cf x y < 0)) h mid e → Hid (Sw a e d h ∧ Sd (fun x y => decide (cf x y < 0)) h a e) := fun h k1 k2 => Lib.hid ⟨SG.trans (k1.mono (by omega) (Nat.le_refl _)), halves_sorted f g h a mid e G1 k1 G2 k2 HH.out.2.2.2.2⟩
   replace s3 := Lib.hid s3
   replace s4 := Lib.hid s4
   clear SG G1 G2 HH SW1
   go_upto_region 43 with fail
   go_cut [213] (fun u wx => u = .bool (decide (mid < en ∧ en < e)) ∧ wx = wc)
   case first =>
    as_aux_lemma =>
    by_cases q : mid < en
    ·have q1 : (mid : Int) < (en : Int) := by omega
     go_wp2_with fail
     go_meet
     case rel => exact ⟨vB (decide_eq_decide.2 (by omega)), rfl⟩
    ·have q1 : ¬ (mid : Int) < (en : Int) := by omega
     go_wp2_with fail
     go_meet
     case rel => exact ⟨vB (decide_eq_false (by omega)).symm, rfl⟩
   case rest =>
   as_aux_lemma =>
   obtain ⟨rfl, hwx⟩ := hcut
   subst hwx
   by_cases hrc : mid < en ∧ en < e
   ·have C0 := RC2 hrc.1 hrc.2 wc HX3 HR3
    have k1 : decide (mid < en ∧ en < e) = true := decide_eq_true hrc
    clear RC2
    go_wp2_with fail
    (with_reducible refine C0.mono ?_)
    rintro z w1 ⟨rfl, h, k2, k3, k4, k5⟩
    have FF := FIN h k2 k3
    clear k2 k3 FIN
    go_wp2_with fail
    go_end0
    exact ⟨rfl, h, FF.out.1, FF.out.2, k4, k5⟩
   ·have k1 : decide (mid < en ∧ en < e) = false := decide_eq_false hrc
    have k2 : Sd (fun x y => decide (cf x y < 0)) g mid e := by
     by_cases q : mid < en
     ·obtain rfl : en = e := by omega
      exact s3.out
     ·obtain rfl : mid = en := by omega
      exact s4.out
    have FF := FIN g .refl k2
    clear RC2 FIN k2
    go_wp2_with fail
    go_end0
    exact ⟨rfl, g, FF.out.1, FF.out.2, HR3, HX3⟩
end Go.Proofs.YtjjnmefihdjglaaGreat
