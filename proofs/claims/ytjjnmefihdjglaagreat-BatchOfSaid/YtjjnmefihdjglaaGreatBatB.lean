import Derived.Test.YtjjnmefihdjglaaGreatBatA
namespace Go.Proofs.YtjjnmefihdjglaaGreat
open Go.RowKit
theorem eq_is (a b : ByteArray) : (a.toList == b.toList) = decide (a = b) := by
 by_cases h : a = b
 ·subst h; simp
 ·rw [decide_eq_false h]
  have : ¬ a.toList = b.toList := fun e => h (tl_inj e)
  simpa using this
def sameF (x y : FamY) : Bool := headB x.nm x.k x.un x.he y.nm y.k y.un y.he && sameYs x.ps y.ps
def sameFs : List FamY → List FamY → Bool
 | [], [] => true
 | x :: l, y :: m => sameF x y && sameFs l m
 | _, _ => false
theorem sameF_refl (x : FamY) : sameF x x = true := by unfold sameF headB; rw [sameYs_refl]; simp
theorem sameFs_refl : ∀ l, sameFs l l = true
 | [] => rfl
 | x :: l => by rw [sameFs, sameF_refl, sameFs_refl l]; rfl
theorem sameFs_len : ∀ l m, sameFs l m = true → l.length = m.length
 | [], [], _ => rfl
 | x :: l, y :: m, h => by
   rw [sameFs, Bool.and_eq_true] at h
   simp [sameFs_len l m h.2]
 | [], _ :: _, h => by simp [sameFs] at h
 | _ :: _, [], h => by simp [sameFs] at h
theorem sameFD_any (p q : FamD) (w : World) (hp : PtsA p.pa p.ps w) (hq : PtsA q.pa q.ps w) (sp : p.y.Sm) (sq : q.y.Sm) :
  Calls Tryz.prog 44 #[p.v, q.v] w fun e w' => e = .returned (.bool (sameF p.y q.y)) ∧ Ext w w' := by
 have h1 := sp.pl
 have h2 := sq.pl
 exact famSame_any p.nm p.k p.un p.he p.pa p.pc p.ps q.nm q.k q.un q.he q.pa q.pc q.ps w (by omega) (by omega) hp hq
set_option maxHeartbeats 8000000 in
set_option maxRecDepth 100000 in
theorem equalF_any (a1 : Option Addr) (c1 : Nat) (l1 : List FamD) (a2 : Option Addr) (c2 : Nat) (l2 : List FamD) (w : World) (n1 : l1.length ≤ 1000000) (_n2 : l2.length ≤ 1000000) (h1 : FamsA a1 l1 w) (h2 : FamsA a2 l2 w) (s1 : ∀ f ∈ l1, f.y.Sm) (s2 : ∀ f ∈ l2, f.y.Sm) :
  Calls Tryz.prog 43 #[.slice a1 l1.length c1, .slice a2 l2.length c2, .func (.func 44) #[] #[]] w fun e w' => e = .returned (.bool (sameFs (l1.map FamD.y) (l2.map FamD.y))) ∧ Ext w w' := by
 obtain ⟨R, hR⟩ : ∃ R, sameFs (l1.map FamD.y) (l2.map FamD.y) = R := ⟨_, rfl⟩
 rw [hR]
 by_cases hne : l1.length = l2.length
 ·obtain ⟨n, hn⟩ : ∃ n, l1.length = n := ⟨_, rfl⟩
  rw [← hne, hn]
  go_enter Tryz.func43, Tryz.ntmps43
  go_wp2_with fail
  go_loopw [17] (fun i wr => ∃ k : Nat, i = .int .i64 k ∧ k ≤ n ∧ Hid (sameFs ((l1.drop k).map FamD.y) ((l2.drop k).map FamD.y) = R) ∧ Ext w wr) (fun i _ => n - (intOf i).toNat)
  case atStart => exact ⟨0, rfl, Nat.zero_le _, Lib.hid hR, Ext.refl _⟩
  case round =>
   obtain ⟨k, rfl, hk, hg, xr⟩ := hrel
   clear hR
   by_cases hlt : k < n
   ·have hd := hg.out
    have k1 : k < l1.length := by omega
    have k2 : k < l2.length := by omega
    rw [List.drop_eq_getElem_cons k1, List.drop_eq_getElem_cons k2, List.map_cons, List.map_cons, sameFs] at hd
    obtain ⟨b1, o1, rfl, hb1, P1⟩ := h1.1 (by omega)
    obtain ⟨b2, o2, rfl, hb2, P2⟩ := h2.1 (by omega)
    have ok1 := (h1.2 _ (List.getElem_mem k1)).ext xr
    have ok2 := (h2.2 _ (List.getElem_mem k2)).ext xr
    have sm1 := s1 _ (List.getElem_mem k1)
    have sm2 := s2 _ (List.getElem_mem k2)
    obtain ⟨p0, p1, p2, p3, p4⟩ := P1 k k1
    obtain ⟨q0, q1, q2, q3, q4⟩ := P2 k k2
    generalize l1[k] = p at *
    generalize l2[k] = q at *
    have C := fun W (x : Ext wr W) => sameFD_any p q W (ok1.ext x) (ok2.ext x) sm1 sm2
    obtain ⟨g, hgg⟩ : ∃ g, sameF p.y q.y = g := ⟨_, rfl⟩
    rw [hgg] at C hd
    unfold FamD.v at C
    replace p0 := (Ext.cell xr hb1).trans p0
    replace p1 := (Ext.cell xr hb1).trans p1
    replace p2 := (Ext.cell xr hb1).trans p2
    replace p3 := (Ext.cell xr hb1).trans p3
    replace p4 := (Ext.cell xr hb1).trans p4
    replace q0 := (Ext.cell xr hb2).trans q0
    replace q1 := (Ext.cell xr hb2).trans q1
    replace q2 := (Ext.cell xr hb2).trans q2
    replace q3 := (Ext.cell xr hb2).trans q3
    replace q4 := (Ext.cell xr hb2).trans q4
    have hb1' : b1 < wr.heap.size := Nat.lt_of_lt_of_le hb1 xr.size
    have hb2' : b2 < wr.heap.size := Nat.lt_of_lt_of_le hb2 xr.size
    have hn1 : ¬ wr.heap.size = b2 := by omega
    have i1 : (k : Int) < (n : Int) := by omega
    have XX := ((Ext.refl wr).alloc (.cells #[.string p.nm, .int .i64 p.k, .string p.un, .string p.he, .slice p.pa p.ps.length p.pc] 35)).alloc (.cells #[.string q.nm, .int .i64 q.k, .string q.un, .string q.he, .slice q.pa q.ps.length q.pc] 35)
    clear P1 P2 ok1 ok2 h1 h2 hgg hg s1 s2 sm1 sm2
    cases g
    ·have HV : Hid (false = R) := Lib.hid (by rw [← hd]; rfl)
     clear hd
     go_wp2_with fail
     (with_reducible refine (C _ XX).mono ?_)
     rintro e w1 ⟨rfl, x1⟩
     go_wp2_with fail
     go_ret
     exact ⟨retB HV.out, (xr.trans XX).trans x1⟩
    ·rw [Bool.true_and] at hd
     replace hd := Lib.hid hd
     go_wp2_with fail
     (with_reducible refine (C _ XX).mono ?_)
     rintro e w1 ⟨rfl, x1⟩
     go_wp2_with fail
     go_roundw
     case rel => exact ⟨k + 1, rfl, hlt, hd, (xr.trans XX).trans x1⟩
     case measure => simp only [intOf]; omega
   ·have hd := hg.out
    rw [List.drop_eq_nil_of_le (by omega), List.drop_eq_nil_of_le (by omega)] at hd
    replace hd : Hid (true = R) := Lib.hid hd
    have i1 : ¬ (k : Int) < (n : Int) := by omega
    clear hg
    go_wp2_with fail
    go_ret
    exact ⟨retB hd.out, xr⟩
 ·have HV : Hid (false = R) := Lib.hid (by
   rw [← hR]
   cases h : sameFs (l1.map FamD.y) (l2.map FamD.y)
   ·rfl
   ·exact absurd (by simpa using sameFs_len _ _ h) hne)
  have hne2 : ¬ (l1.length : Int) = (l2.length : Int) := by omega
  clear hR h1 h2
  go_enter Tryz.func43, Tryz.ntmps43
  go_wp2_with fail
  go_ret
  exact ⟨retB HV.out, Ext.refl _⟩
set_option maxHeartbeats 4000000 in
set_option maxRecDepth 100000 in
theorem batSame_any (t1 : ByteArray) (a1 : Option Addr) (c1 : Nat) (l1 : List FamD) (t2 : ByteArray) (a2 : Option Addr) (c2 : Nat) (l2 : List FamD) (w : World) (n1 : l1.length ≤ 1000000) (n2 : l2.length ≤ 1000000) (h1 : FamsA a1 l1 w) (h2 : FamsA a2 l2 w) (s1 : ∀ f ∈ l1, f.y.Sm) (s2 : ∀ f ∈ l2, f.y.Sm) :
  Calls Tryz.prog 20 #[.agg #[.string t1, .slice a1 l1.length c1], .agg #[.string t2, .slice a2 l2.length c2]] w fun e w' => e = .returned (.bool (decide (t1 = t2) && sameFs (l1.map FamD.y) (l2.map FamD.y))) ∧ Ext w w' := by
 have C := fun W (x : Ext w W) => equalF_any a1 c1 l1 a2 c2 l2 W n1 n2 (h1.ext x) (h2.ext x) s1 s2
 obtain ⟨V1, hV1⟩ : ∃ V, Value.slice a1 l1.length c1 = V := ⟨_, rfl⟩
 obtain ⟨V2, hV2⟩ : ∃ V, Value.slice a2 l2.length c2 = V := ⟨_, rfl⟩
 rw [hV1, hV2] at C
 rw [hV1, hV2]
 clear hV1 hV2 h1 h2 s1 s2
 generalize sameFs (l1.map FamD.y) (l2.map FamD.y) = R at *
 have xw := ((Ext.refl w).alloc (.cells #[.string t1, V1] 27)).alloc (.cells #[.string t2, V2] 27)
 have e2 := eq_is t1 t2
 by_cases HE : t1 = t2
 ·rw [decide_eq_true HE] at e2
  rw [decide_eq_true HE, Bool.true_and]
  clear HE
  go_enter Tryz.func20, Tryz.ntmps20
  go_wp2_with fail
  (with_reducible refine (C _ xw).mono ?_)
  rintro e w1 ⟨rfl, x1⟩
  go_wp2_with fail
  go_ret
  exact ⟨rfl, xw.trans x1⟩
 ·rw [decide_eq_false HE] at e2
  rw [decide_eq_false HE, Bool.false_and]
  clear HE
  go_enter Tryz.func20, Tryz.ntmps20
  go_wp2_with fail
  go_ret
  exact ⟨rfl, xw⟩
end Go.Proofs.YtjjnmefihdjglaaGreat
