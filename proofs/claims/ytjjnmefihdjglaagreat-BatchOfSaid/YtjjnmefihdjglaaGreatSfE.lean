import Derived.Test.YtjjnmefihdjglaaGreatSfD
namespace Go.Proofs.YtjjnmefihdjglaaGreat
open Go.RowKit
theorem sym_f (S : FamD → Prop) (cf : FamD → FamD → Int) (L : Lt (fun x y => decide (cf x y < 0))) (b n c : Nat) (w0 : World) (hb : b < w0.heap.size) (hn : n ≤ 1000) (C : ∀ W x y, ExtB b w0 W → S x → S y → Calls Tryz.prog 40 #[x.v, y.v] W fun e w' => e = .returned (.int .i64 (cf x y)) ∧ Ext W w') :
  ∀ (N a m e : Nat) (d : Nat → FamD) (w : World), e - a < N → a < m → m < e → e ≤ n → ExtB b w0 w → RowE 5 35 FamD.cs b n d w → (∀ i, i < n → S (d i)) → Sd (fun x y => decide (cf x y < 0)) d a m → Sd (fun x y => decide (cf x y < 0)) d m e → Calls Tryz.prog 104 #[.slice (some ⟨b, 0, none⟩) n c, .int .i64 a, .int .i64 m, .int .i64 e, .func (.func 40) #[] #[]] w fun z w' => z = .returned (.tuple #[]) ∧ ∃ d', Sw a e d d' ∧ Sd (fun x y => decide (cf x y < 0)) d' a e ∧ RowE 5 35 FamD.cs b n d' w' ∧ ExtB b w0 w' := by
 intro N
 induction N with
 | zero => intro a m e d w h; omega
 | succ N ih =>
   intro a m e d w hN ham hme he hX hR hS h1 h2
   by_cases q1 : m = a + 1
   ·exact sym1_f S cf L b n c d w0 w hb hn hX hR hS C a m e q1 hme he h2
   ·by_cases q2 : e = m + 1
    ·exact sym2_f S cf L b n c d w0 w hb hn hX hR hS C a m e (by omega) q2 he h1
    ·exact sym3_f S cf L b n c d w0 w hb hn hX hR hS C N ih a m e (by omega) (by omega) (by omega) he h1 h2
set_option maxHeartbeats 16000000 in
set_option maxRecDepth 100000 in
theorem stable_f (S : FamD → Prop) (cf : FamD → FamD → Int) (L : Lt (fun x y => decide (cf x y < 0))) (b n c : Nat) (d : Nat → FamD) (w0 w : World) (hb : b < w0.heap.size) (hn : n ≤ 1000) (hX : ExtB b w0 w) (hR : RowE 5 35 FamD.cs b n d w) (hS : ∀ i, i < n → S (d i)) (C : ∀ W x y, ExtB b w0 W → S x → S y → Calls Tryz.prog 40 #[x.v, y.v] W fun e w' => e = .returned (.int .i64 (cf x y)) ∧ Ext W w') :
  Calls Tryz.prog 71 #[.slice (some ⟨b, 0, none⟩) n c, .int .i64 n, .func (.func 40) #[] #[]] w fun z w' => z = .returned (.tuple #[]) ∧ ∃ d', Sw 0 n d d' ∧ Sd (fun x y => decide (cf x y < 0)) d' 0 n ∧ RowE 5 35 FamD.cs b n d' w' ∧ ExtB b w0 w' := by
 have INS := fun (a e : Nat) (d : Nat → FamD) (w : World) hX hR hS (h1 : a ≤ e) (h2 : e ≤ n) => ins_f S cf L b n c d w0 w hb hn hX hR hS C a e h1 h2
 have SYM := fun (a m e : Nat) (d : Nat → FamD) (w : World) (h1 : a < m) (h2 : m < e) (h3 : e ≤ n) hX hR hS s1 s2 => sym_f S cf L b n c w0 hb hn C (e - a + 1) a m e d w (Nat.lt_succ_self _) h1 h2 h3 hX hR hS s1 s2
 go_enter Tryz.func71, Tryz.ntmps71
 go_wp2_with fail
 go_loopw [7, 8] (fun va vb wr => ∃ (k : Nat) (a e : Nat) (d1 : Nat → FamD), va = .int .i64 a ∧ vb = .int .i64 e ∧ Hid (a = k * 20) ∧ e ≤ a + 20 ∧ a + 20 ≤ e ∧ a ≤ n ∧ Hid (Sw 0 n d d1 ∧ Bl (fun x y => decide (cf x y < 0)) d1 20 0 (k * 20)) ∧ RowE 5 35 FamD.cs b n d1 wr ∧ ExtB b w0 wr) (fun va vb _ => n - (intOf va).toNat)
 case atStart => exact ⟨0, 0, 20, d, rfl, rfl, Lib.hid rfl, by omega, by omega, by omega, Lib.hid ⟨.refl, fun i j _ _ h _ => by omega⟩, hR, hX⟩
 case round =>
  as_aux_lemma =>
  obtain ⟨k, a, e, d1, rfl, rfl, ha, e1, e2, e3, HQ, HR1, HX1⟩ := hrel
  clear hR hX
  by_cases hlt : e ≤ n
  ·have ilt : (e : Int) ≤ (n : Int) := by omega
   have C0 := INS a e d1 wr HX1 HR1 (HQ.out.1.all (Nat.le_refl _) hS) (by omega) hlt
   obtain ⟨e', he'⟩ : ∃ e', e + 20 = e' := ⟨_, rfl⟩
   have ee : (e : Int) + 20 = (e' : Int) := by omega
   have we : IntKind.i64.wrap (e' : Int) = (e' : Int) := IntWalk.i64_in _ (by omega)
   have l1 : e' ≤ e + 20 := by omega
   have l2 : e + 20 ≤ e' := by omega
   have hgo : ∀ d2, Sw a e d1 d2 → Sd (fun x y => decide (cf x y < 0)) d2 a e → Hid (Sw 0 n d d2 ∧ Bl (fun x y => decide (cf x y < 0)) d2 20 0 ((k + 1) * 20)) := fun d2 h1 h2 => Lib.hid ⟨HQ.out.1.trans (h1.mono (by omega) hlt), by
    have ha' := ha.out
    have : (k + 1) * 20 = e := by omega
    rw [this]
    exact Bl.grow (c := k) (by omega) HQ.out.2 (fun x hx => h1.out x (.inl (by omega))) (by rw [← ha']; exact h2)⟩
   have ha2 : Hid (e = (k + 1) * 20) := Lib.hid (by have := ha.out; omega)
   clear he' HQ
   go_wp2_with fail
   (with_reducible refine C0.mono ?_)
   rintro z w1 ⟨rfl, d2, k1, k2, k3, k4⟩
   have hg := hgo d2 k1 k2
   clear k1 k2 hgo
   go_wp2_with fail
   go_roundw
   case rel => exact ⟨k + 1, e, e', d2, rfl, rfl, ha2, l1, l2, hlt, hg, k3, k4⟩
   case measure => simp only [intOf]; omega
  ·have ilt : ¬ (e : Int) ≤ (n : Int) := by omega
   have C0 := INS a n d1 wr HX1 HR1 (HQ.out.1.all (Nat.le_refl _) hS) (by omega) (Nat.le_refl _)
   have hgo : ∀ d2, Sw a n d1 d2 → Sd (fun x y => decide (cf x y < 0)) d2 a n → Hid (Sw 0 n d d2 ∧ Bl (fun x y => decide (cf x y < 0)) d2 20 0 n) := fun d2 h1 h2 => Lib.hid ⟨HQ.out.1.trans (h1.mono (by omega) (Nat.le_refl _)), by
    have ha' := ha.out
    exact Bl.grow (c := k) (by omega) HQ.out.2 (fun x hx => h1.out x (.inl (by omega))) (by rw [← ha']; exact h2)⟩
   clear HQ
   go_wp2_with fail
   (with_reducible refine C0.mono ?_)
   rintro z w1 ⟨rfl, d2, k1, k2, HR2, HX2⟩
   have HG := hgo d2 k1 k2
   clear k1 k2 hgo C0 HR1 HX1 INS
   go_wp2_with fail
   go_loopw [6] (fun vs wr => ∃ (s : Nat) (d1 : Nat → FamD), vs = .int .i64 s ∧ 0 < s ∧ s ≤ 20 + 2 * n ∧ Hid (Sw 0 n d d1 ∧ Bl (fun x y => decide (cf x y < 0)) d1 s 0 n) ∧ RowE 5 35 FamD.cs b n d1 wr ∧ ExtB b w0 wr) (fun vs _ => n - (intOf vs).toNat)
   case atStart => exact ⟨20, d2, rfl, by omega, by omega, HG, HR2, HX2⟩
   case round =>
    as_aux_lemma =>
    obtain ⟨s, d3, rfl, s0, s1, HQ, HR3, HX3⟩ := hrel
    clear HR2 HX2 HG
    by_cases hsn : s < n
    ·have isn : (s : Int) < (n : Int) := by omega
     obtain ⟨s2, hs2⟩ : ∃ s2, 2 * s = s2 := ⟨_, rfl⟩
     have es2 : 2 * (s : Int) = (s2 : Int) := by omega
     have es3 : (s : Int) * 2 = (s2 : Int) := by omega
     have ws2 : IntKind.i64.wrap (s2 : Int) = (s2 : Int) := IntWalk.i64_in _ (by omega)
     have s3 : s2 ≤ 2 * s := by omega
     have s4 : 2 * s ≤ s2 := by omega
     replace hs2 := Lib.hid hs2
     go_wp2_with fail
     go_loopw [7, 8] (fun va vb wr => ∃ (k : Nat) (a e : Nat) (d1 : Nat → FamD), va = .int .i64 a ∧ vb = .int .i64 e ∧ Hid (a = k * s2) ∧ e ≤ a + s2 ∧ a + s2 ≤ e ∧ a ≤ n ∧ Hid (Sw 0 n d d1 ∧ Bl (fun x y => decide (cf x y < 0)) d1 s2 0 a ∧ Bl (fun x y => decide (cf x y < 0)) d1 s a n) ∧ RowE 5 35 FamD.cs b n d1 wr ∧ ExtB b w0 wr) (fun va vb _ => n - (intOf va).toNat)
     case atStart => exact ⟨0, 0, s2, d3, rfl, rfl, Lib.hid (by omega), by omega, by omega, by omega, Lib.hid ⟨HQ.out.1, fun i j _ _ h _ => by omega, HQ.out.2⟩, HR3, HX3⟩
     case round =>
      as_aux_lemma =>
      obtain ⟨k, a, e, d1, rfl, rfl, ha, e1, e2, e3, HQ, HR1, HX1⟩ := hrel
      clear HR3 HX3
      obtain ⟨m, hm⟩ : ∃ m, a + s = m := ⟨_, rfl⟩
      have em : (a : Int) + (s : Int) = (m : Int) := by omega
      have wm : IntKind.i64.wrap (m : Int) = (m : Int) := IntWalk.i64_in _ (by omega)
      have hak : a = (2 * k) * s := by have h1 := ha.out; have h2 := hs2.out; rw [h1, ← h2, Nat.mul_comm 2 s, ← Nat.mul_assoc, Nat.mul_comm (k * s) 2, Nat.mul_assoc]
      have hmk : m = (2 * k + 1) * s := by rw [Nat.add_mul, Nat.one_mul, ← hak]; exact hm.symm
      by_cases hlt : e ≤ n
      ·have ilt : (e : Int) ≤ (n : Int) := by omega
       have t1 : Sd (fun x y => decide (cf x y < 0)) d1 a m := by
        have := Bl.sd (c := 2 * k) (e := m) s0 HQ.out.2.2 (by omega) (by omega) (by omega); rwa [← hak] at this
       have t2 : Sd (fun x y => decide (cf x y < 0)) d1 m e := by
        have := Bl.sd (c := 2 * k + 1) (e := e) s0 HQ.out.2.2 (by omega) (by omega) (by omega); rwa [← hmk] at this
       have C0 := SYM a m e d1 wr (by omega) (by omega) hlt HX1 HR1 (HQ.out.1.all (Nat.le_refl _) hS) t1 t2
       obtain ⟨e', he'⟩ : ∃ e', e + s2 = e' := ⟨_, rfl⟩
       have ee : (e : Int) + (s2 : Int) = (e' : Int) := by omega
       have we : IntKind.i64.wrap (e' : Int) = (e' : Int) := IntWalk.i64_in _ (by omega)
       have l1 : e' ≤ e + s2 := by omega
       have l2 : e + s2 ≤ e' := by omega
       have ha2 : Hid (e = (k + 1) * s2) := Lib.hid (by have := ha.out; rw [Nat.add_mul, Nat.one_mul, ← this]; omega)
       have hgo : ∀ d2, Sw a e d1 d2 → Sd (fun x y => decide (cf x y < 0)) d2 a e → Hid (Sw 0 n d d2 ∧ Bl (fun x y => decide (cf x y < 0)) d2 s2 0 e ∧ Bl (fun x y => decide (cf x y < 0)) d2 s e n) := fun d2 h1 h2 => Lib.hid ⟨HQ.out.1.trans (h1.mono (by omega) hlt),
        Bl.grow (c := k) (by omega) (by rw [← ha.out]; exact HQ.out.2.1) (fun x hx => h1.out x (.inl (by have := ha.out; omega))) (by rw [← ha.out]; exact h2),
        HQ.out.2.2.congr (by omega) (fun x hx => h1.out x (.inr hx))⟩
       have l3 : a < e := by omega
       clear he' HQ t1 t2 hak hmk hm
       go_wp2_with fail
       (with_reducible refine C0.mono ?_)
       rintro z w1 ⟨rfl, d2, k1, k2, k3, k4⟩
       have hg := hgo d2 k1 k2
       clear k1 k2 hgo C0
       go_wp2_with fail
       go_roundw
       case rel => exact ⟨k + 1, e, e', d2, rfl, rfl, ha2, l1, l2, hlt, hg, k3, k4⟩
       case measure => simp only [intOf]; omega
      ·have ilt : ¬ (e : Int) ≤ (n : Int) := by omega
       by_cases hmn : m < n
       ·have imn : (m : Int) < (n : Int) := by omega
        have t1 : Sd (fun x y => decide (cf x y < 0)) d1 a m := by
         have := Bl.sd (c := 2 * k) (e := m) s0 HQ.out.2.2 (by omega) (by omega) (by omega); rwa [← hak] at this
        have t2 : Sd (fun x y => decide (cf x y < 0)) d1 m n := by
         have := Bl.sd (c := 2 * k + 1) (e := n) s0 HQ.out.2.2 (by omega) (by omega) (by omega); rwa [← hmk] at this
        have C0 := SYM a m n d1 wr (by omega) hmn (Nat.le_refl _) HX1 HR1 (HQ.out.1.all (Nat.le_refl _) hS) t1 t2
        have hgo : ∀ d2, Sw a n d1 d2 → Sd (fun x y => decide (cf x y < 0)) d2 a n → Hid (Sw 0 n d d2 ∧ Bl (fun x y => decide (cf x y < 0)) d2 s2 0 n) := fun d2 h1 h2 => Lib.hid ⟨HQ.out.1.trans (h1.mono (by omega) (Nat.le_refl _)),
         Bl.grow (c := k) (by omega) (by rw [← ha.out]; exact HQ.out.2.1) (fun x hx => h1.out x (.inl (by have := ha.out; omega))) (by rw [← ha.out]; exact h2)⟩
        clear HQ t1 t2 hak hmk hm
        go_wp2_with fail
        (with_reducible refine C0.mono ?_)
        rintro z w1 ⟨rfl, d2, k1, k2, k3, k4⟩
        have hg := hgo d2 k1 k2
        clear k1 k2 hgo C0
        go_wp2_with fail
        go_roundw
        case rel => exact ⟨s2, d2, rfl, by omega, by omega, hg, k3, k4⟩
        case measure => simp only [intOf]; omega
       ·have imn : ¬ (m : Int) < (n : Int) := by omega
        have hg : Hid (Sw 0 n d d1 ∧ Bl (fun x y => decide (cf x y < 0)) d1 s2 0 n) := Lib.hid ⟨HQ.out.1, Bl.grow (c := k) (by omega) (by rw [← ha.out]; exact HQ.out.2.1) (fun x _ => rfl) (by
         rw [← ha.out, hak]
         exact Bl.sd (c := 2 * k) (e := n) s0 HQ.out.2.2 (by omega) (Nat.le_refl _) (by omega))⟩
        clear HQ hak hmk hm
        go_wp2_with fail
        go_roundw
        case rel => exact ⟨s2, d1, rfl, by omega, by omega, hg, HR1, HX1⟩
        case measure => simp only [intOf]; omega
    ·have isn : ¬ (s : Int) < (n : Int) := by omega
     have FF : Hid (Sw 0 n d d3 ∧ Sd (fun x y => decide (cf x y < 0)) d3 0 n) := Lib.hid ⟨HQ.out.1, HQ.out.2.whole (by omega)⟩
     clear HQ
     go_wp2_with fail
     go_end0
     exact ⟨rfl, d3, FF.out.1, FF.out.2, HR3, HX3⟩
set_option maxHeartbeats 4000000 in
set_option maxRecDepth 100000 in
theorem sort_f (S : FamD → Prop) (cf : FamD → FamD → Int) (L : Lt (fun x y => decide (cf x y < 0))) (b n c : Nat) (d : Nat → FamD) (w0 w : World) (hb : b < w0.heap.size) (hn : n ≤ 1000) (hX : ExtB b w0 w) (hR : RowE 5 35 FamD.cs b n d w) (hS : ∀ i, i < n → S (d i)) (C : ∀ W x y, ExtB b w0 W → S x → S y → Calls Tryz.prog 40 #[x.v, y.v] W fun e w' => e = .returned (.int .i64 (cf x y)) ∧ Ext W w') :
  Calls Tryz.prog 39 #[.slice (some ⟨b, 0, none⟩) n c, .func (.func 40) #[] #[]] w fun z w' => z = .returned (.tuple #[]) ∧ ∃ d', Sw 0 n d d' ∧ Sd (fun x y => decide (cf x y < 0)) d' 0 n ∧ RowE 5 35 FamD.cs b n d' w' ∧ ExtB b w0 w' := by
 have ST := stable_f S cf L b n c d w0 w hb hn hX hR hS C
 clear hX hR C
 go_enter Tryz.func39, Tryz.ntmps39
 go_wp2_with fail
 (with_reducible refine ST.mono ?_)
 rintro z w1 ⟨rfl, d2, k1, k2, k3, k4⟩
 go_wp2_with fail
 go_end0
 exact ⟨rfl, d2, k1, k2, k3, k4⟩
end Go.Proofs.YtjjnmefihdjglaaGreat
