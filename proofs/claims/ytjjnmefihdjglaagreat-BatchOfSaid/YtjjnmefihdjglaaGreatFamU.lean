import Derived.Test.YtjjnmefihdjglaaGreatFamT
namespace Go.Proofs.YtjjnmefihdjglaaGreat
open Go.RowKit
def sameY (x y : PtY) : Bool := cmpY x y == 0 && (x.2.1 == y.2.1 && x.2.2 == y.2.2)
def sameYs : List PtY → List PtY → Bool
 | [], [] => true
 | x :: l, y :: m => sameY x y && sameYs l m
 | _, _ => false
theorem sameY_refl (x : PtY) : sameY x x = true := by unfold sameY; rw [cmpY_cmp.refl x]; simp
theorem sameYs_refl : ∀ l, sameYs l l = true
 | [] => rfl
 | x :: l => by unfold sameYs; rw [sameY_refl, sameYs_refl l]; rfl
theorem sameYs_len : ∀ l m, sameYs l m = true → l.length = m.length
 | [], [], _ => rfl
 | x :: l, y :: m, h => by
   unfold sameYs at h
   rw [Bool.and_eq_true] at h
   rw [List.length_cons, List.length_cons, sameYs_len l m h.2]
theorem sameD_any (p q : PtD) (w : World) (hp : p.Ok w) (hq : q.Ok w) :
  Calls Tryz.prog 74 #[p.v, q.v] w fun e w' => e = .returned (.bool (sameY p.y q.y)) ∧ Ext w w' :=
 ptSame_any p.a q.a p.c q.c p.l q.l p.r p.f p.M p.S p.m p.s p.t p.T q.r q.f q.M q.S q.m q.s q.t q.T w hp.1 hq.1 hp.2.1 hq.2.1 hp.2.2.2.1.1 hp.2.2.2.1.2 hq.2.2.2.1.1 hq.2.2.2.1.2
set_option maxHeartbeats 8000000 in
set_option maxRecDepth 100000 in
theorem equal_any (a1 : Option Addr) (c1 : Nat) (l1 : List PtD) (a2 : Option Addr) (c2 : Nat) (l2 : List PtD) (w : World) (n1 : l1.length ≤ 1000000) (_n2 : l2.length ≤ 1000000) (h1 : PtsA a1 l1 w) (h2 : PtsA a2 l2 w) :
  Calls Tryz.prog 73 #[.slice a1 l1.length c1, .slice a2 l2.length c2, .func (.func 74) #[] #[]] w fun e w' => e = .returned (.bool (sameYs (l1.map PtD.y) (l2.map PtD.y))) ∧ Ext w w' := by
 obtain ⟨R, hR⟩ : ∃ R, sameYs (l1.map PtD.y) (l2.map PtD.y) = R := ⟨_, rfl⟩
 rw [hR]
 by_cases hne : l1.length = l2.length
 ·obtain ⟨n, hn⟩ : ∃ n, l1.length = n := ⟨_, rfl⟩
  rw [← hne, hn]
  go_enter Tryz.func73, Tryz.ntmps73
  go_wp2_with fail
  go_loopw [17] (fun i wr => ∃ k : Nat, i = .int .i64 k ∧ k ≤ n ∧ Hid (sameYs ((l1.drop k).map PtD.y) ((l2.drop k).map PtD.y) = R) ∧ Ext w wr) (fun i _ => n - (intOf i).toNat)
  case atStart => exact ⟨0, rfl, Nat.zero_le _, Lib.hid hR, Ext.refl _⟩
  case round =>
   obtain ⟨k, rfl, hk, hg, xr⟩ := hrel
   clear hR
   by_cases hlt : k < n
   ·have hd := hg.out
    have k1 : k < l1.length := by omega
    have k2 : k < l2.length := by omega
    rw [List.drop_eq_getElem_cons k1, List.drop_eq_getElem_cons k2, List.map_cons, List.map_cons, sameYs] at hd
    obtain ⟨b1, o1, rfl, hb1, P1⟩ := h1.1 (by omega)
    obtain ⟨b2, o2, rfl, hb2, P2⟩ := h2.1 (by omega)
    have ok1 := (h1.2 _ (List.getElem_mem k1)).ext xr
    have ok2 := (h2.2 _ (List.getElem_mem k2)).ext xr
    obtain ⟨p0, p1, p2, p3, p4, p5, p6, p7, p8⟩ := P1 k k1
    obtain ⟨q0, q1, q2, q3, q4, q5, q6, q7, q8⟩ := P2 k k2
    generalize l1[k] = p at *
    generalize l2[k] = q at *
    have C := fun W (x : Ext wr W) => sameD_any p q W (ok1.ext x) (ok2.ext x)
    obtain ⟨g, hgg⟩ : ∃ g, sameY p.y q.y = g := ⟨_, rfl⟩
    rw [hgg] at C hd
    unfold PtD.v ptV at C
    replace p0 := (Ext.cell xr hb1).trans p0
    replace p1 := (Ext.cell xr hb1).trans p1
    replace p2 := (Ext.cell xr hb1).trans p2
    replace p3 := (Ext.cell xr hb1).trans p3
    replace p4 := (Ext.cell xr hb1).trans p4
    replace p5 := (Ext.cell xr hb1).trans p5
    replace p6 := (Ext.cell xr hb1).trans p6
    replace p7 := (Ext.cell xr hb1).trans p7
    replace p8 := (Ext.cell xr hb1).trans p8
    replace q0 := (Ext.cell xr hb2).trans q0
    replace q1 := (Ext.cell xr hb2).trans q1
    replace q2 := (Ext.cell xr hb2).trans q2
    replace q3 := (Ext.cell xr hb2).trans q3
    replace q4 := (Ext.cell xr hb2).trans q4
    replace q5 := (Ext.cell xr hb2).trans q5
    replace q6 := (Ext.cell xr hb2).trans q6
    replace q7 := (Ext.cell xr hb2).trans q7
    replace q8 := (Ext.cell xr hb2).trans q8
    have hb1' : b1 < wr.heap.size := Nat.lt_of_lt_of_le hb1 xr.size
    have hb2' : b2 < wr.heap.size := Nat.lt_of_lt_of_le hb2 xr.size
    have hn1 : ¬ wr.heap.size = b2 := by omega
    have i1 : (k : Int) < (n : Int) := by omega
    have XX := ((Ext.refl wr).alloc (.cells #[.slice p.a p.l.length p.c, .int .i64 p.r, .bool p.f, .int .i64 p.M, .int .i64 p.S, .int .i64 p.m, .int .i64 p.s, .bool p.t, .int .i64 p.T] 40)).alloc (.cells #[.slice q.a q.l.length q.c, .int .i64 q.r, .bool q.f, .int .i64 q.M, .int .i64 q.S, .int .i64 q.m, .int .i64 q.s, .bool q.t, .int .i64 q.T] 40)
    clear P1 P2 ok1 ok2 h1 h2 hgg hg
    cases g
    ·have HV : Hid (false = R) := Lib.hid (by rw [← hd]; rfl)
     clear hd
     go_wp2_with fail
     (with_reducible refine (C _ XX).mono ?_)
     rintro e w1 ⟨rfl, x1⟩
     go_wp2_with fail
     go_ret
     exact ⟨retB HV.out, (xr.trans XX).trans x1⟩
    ·rw [Bool.true_and] at hd
     replace hd := Lib.hid hd
     go_wp2_with fail
     (with_reducible refine (C _ XX).mono ?_)
     rintro e w1 ⟨rfl, x1⟩
     go_wp2_with fail
     go_roundw
     case rel => exact ⟨k + 1, rfl, hlt, hd, (xr.trans XX).trans x1⟩
     case measure => simp only [intOf]; omega
   ·have hd := hg.out
    rw [List.drop_eq_nil_of_le (by omega), List.drop_eq_nil_of_le (by omega)] at hd
    replace hd : Hid (true = R) := Lib.hid hd
    have i1 : ¬ (k : Int) < (n : Int) := by omega
    clear hg
    go_wp2_with fail
    go_ret
    exact ⟨retB hd.out, xr⟩
 ·have HV : Hid (false = R) := Lib.hid (by
   rw [← hR]
   cases h : sameYs (l1.map PtD.y) (l2.map PtD.y)
   ·rfl
   ·exact absurd (by simpa using sameYs_len _ _ h) hne)
  have hne2 : ¬ (l1.length : Int) = (l2.length : Int) := by omega
  clear hR h1 h2
  go_enter Tryz.func73, Tryz.ntmps73
  go_wp2_with fail
  go_ret
  exact ⟨retB HV.out, Ext.refl _⟩
theorem tl_inj {a b : ByteArray} (h : a.toList = b.toList) : a = b := by
 rw [ByteArray.toList_eq, ByteArray.toList_eq] at h
 cases a; cases b
 simp only [ByteArray.mk.injEq]
 exact Array.toList_inj.1 h
def headB (n1 : ByteArray) (k1 : Int) (u1 h1 n2 : ByteArray) (k2 : Int) (u2 h2 : ByteArray) : Bool := decide (n1 = n2 ∧ k1 = k2 ∧ u1 = u2 ∧ h1 = h2)
set_option maxHeartbeats 4000000 in
set_option maxRecDepth 100000 in
theorem famSame_any (n1 : ByteArray) (k1 : Int) (u1 h1 : ByteArray) (a1 : Option Addr) (c1 : Nat) (l1 : List PtD) (n2 : ByteArray) (k2 : Int) (u2 h2 : ByteArray) (a2 : Option Addr) (c2 : Nat) (l2 : List PtD) (w : World) (m1 : l1.length ≤ 1000000) (m2 : l2.length ≤ 1000000) (P1 : PtsA a1 l1 w) (P2 : PtsA a2 l2 w) :
  Calls Tryz.prog 44 #[.agg #[.string n1, .int .i64 k1, .string u1, .string h1, .slice a1 l1.length c1], .agg #[.string n2, .int .i64 k2, .string u2, .string h2, .slice a2 l2.length c2]] w fun e w' => e = .returned (.bool (headB n1 k1 u1 h1 n2 k2 u2 h2 && sameYs (l1.map PtD.y) (l2.map PtD.y))) ∧ Ext w w' := by
 have C := fun W (x : Ext w W) => equal_any a1 c1 l1 a2 c2 l2 W m1 m2 (P1.ext x) (P2.ext x)
 obtain ⟨V1, hV1⟩ : ∃ V, Value.slice a1 l1.length c1 = V := ⟨_, rfl⟩
 obtain ⟨V2, hV2⟩ : ∃ V, Value.slice a2 l2.length c2 = V := ⟨_, rfl⟩
 rw [hV1, hV2] at C
 rw [hV1, hV2]
 clear hV1 hV2 P1 P2
 generalize sameYs (l1.map PtD.y) (l2.map PtD.y) = R at *
 have xw := ((Ext.refl w).alloc (.cells #[.string n1, .int .i64 k1, .string u1, .string h1, V1] 35)).alloc (.cells #[.string n2, .int .i64 k2, .string u2, .string h2, V2] 35)
 by_cases HE : n1 = n2 ∧ k1 = k2 ∧ u1 = u2 ∧ h1 = h2
 ·have e : headB n1 k1 u1 h1 n2 k2 u2 h2 = true := decide_eq_true HE
  rw [e, Bool.true_and]
  obtain ⟨rfl, rfl, rfl, rfl⟩ := HE
  clear e
  go_enter Tryz.func44, Tryz.ntmps44
  go_wp2_with fail
  (with_reducible refine (C _ xw).mono ?_)
  rintro e w1 ⟨rfl, x1⟩
  go_wp2_with fail
  go_ret
  exact ⟨rfl, xw.trans x1⟩
 ·have e : headB n1 k1 u1 h1 n2 k2 u2 h2 = false := decide_eq_false HE
  rw [e, Bool.false_and]
  clear e
  replace HE := Lib.hid HE
  go_enter Tryz.func44, Tryz.ntmps44
  go_wp2_with fail
  all_goals first
   | (go_ret; exact ⟨rfl, ((Ext.refl _).alloc _).alloc _⟩)
   | (go_wp2_with fail; go_ret; exact ⟨rfl, ((Ext.refl _).alloc _).alloc _⟩)
   | (exfalso; exact HE.out ⟨tl_inj (by assumption), by first | rfl | assumption, tl_inj (by assumption), tl_inj (by assumption)⟩)
end Go.Proofs.YtjjnmefihdjglaaGreat
