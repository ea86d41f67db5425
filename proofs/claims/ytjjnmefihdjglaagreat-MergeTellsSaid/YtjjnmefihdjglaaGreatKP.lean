import Derived.Test.YtjjnmefihdjglaaGreatKA
import Derived.Test.YtjjnmefihdjglaaGreatPtD
import Derived.Test.YtjjnmefihdjglaaGreatKD
import Derived.Test.YtjjnmefihdjglaaGreatKE
import Derived.Test.YtjjnmefihdjglaaGreatKF
import Derived.Deep.DeepCutAuto
import Derived.Deep.RegionHeld3
set_option maxRecDepth 100000
set_option maxHeartbeats 64000000
set_option linter.all false
namespace Go.Proofs.YtjjnmefihdjglaaGreat
open Go.RowKit
theorem number_any (a b : Int) (w : World) : Calls Tryz.prog 63 #[.int .i64 a,.int .i64 b] w fun e w' => e = .returned (.int .i64 (cmpI a b)) ∧ w' = w := by
 unfold cmpI
 by_cases h : a < b
 ·rw [if_pos h]
  go_enter Tryz.func63,Tryz.ntmps63
  go_wp2_with fail
  go_ret
  exact ⟨rfl,rfl⟩
 ·rw [if_neg h]
  by_cases h2 : b < a
  ·rw [if_pos h2]
   go_enter Tryz.func63,Tryz.ntmps63
   go_wp2_with fail
   go_ret
   exact ⟨rfl,rfl⟩
  ·rw [if_neg h2]
   go_enter Tryz.func63,Tryz.ntmps63
   go_wp2_with fail
   go_ret
   exact ⟨rfl,rfl⟩
def fl (b : Bool) : Int := if b then 1 else 0
theorem flag_any (b : Bool) (w : World) : Calls Tryz.prog 62 #[.bool b] w fun e w' => e = .returned (.int .i64 (fl b)) ∧ w' = w := by
 cases b
 ·go_enter Tryz.func62,Tryz.ntmps62
  go_wp2_with fail
  go_ret
  exact ⟨rfl,rfl⟩
 ·go_enter Tryz.func62,Tryz.ntmps62
  go_wp2_with fail
  go_ret
  exact ⟨rfl,rfl⟩
theorem fl_cmp (a b : Bool) : cmpI (fl a) (fl b) = cmpB a b := by cases a <;> cases b <;> decide
theorem text_any (a b : ByteArray) (w : World) : Calls Tryz.prog 92 #[.string a,.string b] w fun e w' => e = .returned (.int .i64 (cmpS a b)) ∧ w' = w := by
 have l1 := less_is a b
 have l2 := less_is b a
 have an := cmpS_cmp.anti a b
 have l3 := same_is a b
 rcases cmpS_c3 a b with h | h | h
 ·rw [h] at l1 ⊢
  replace l1 : Op.bytesLess a.toList b.toList = true := l1
  clear l2 l3 an h
  go_enter Tryz.func92,Tryz.ntmps92
  go_wp2_with fail
  go_ret
  exact ⟨rfl,rfl⟩
 ·rw [h] at l1 l3 an ⊢
  rw [an] at l2
  replace l1 : Op.bytesLess a.toList b.toList = false := l1
  replace l2 : Op.bytesLess b.toList a.toList = false := l2
  replace l3 : (a.toList == b.toList) = true := l3
  clear an h
  go_enter Tryz.func92,Tryz.ntmps92
  go_wp2_with fail
  go_ret
  exact ⟨rfl,rfl⟩
 ·rw [h] at l1 l3 an ⊢
  rw [an] at l2
  replace l1 : Op.bytesLess a.toList b.toList = false := l1
  replace l2 : Op.bytesLess b.toList a.toList = true := l2
  replace l3 : (a.toList == b.toList) = false := l3
  clear an h
  go_enter Tryz.func92,Tryz.ntmps92
  go_wp2_with fail
  go_ret
  exact ⟨rfl,rfl⟩
theorem cmpLs_end1 (m : List (ByteArray × ByteArray)) : cmpLs [] m = cmpI 0 (m.length : Int) := by
 cases m with
 | nil => rfl
 | cons x m =>
   unfold cmpLs cmpI
   rw [if_pos (by simp only [List.length_cons]; omega)]
theorem cmpLs_end2 (l : List (ByteArray × ByteArray)) : cmpLs l [] = cmpI (l.length : Int) 0 := by
 cases l with
 | nil => rfl
 | cons x m =>
   unfold cmpLs cmpI
   rw [if_neg (by simp only [List.length_cons]; omega),if_pos (by simp only [List.length_cons]; omega)]
theorem cmpI_shift (a b k : Int) : cmpI (a - k) (b - k) = cmpI a b := by
 unfold cmpI
 by_cases h : a < b
 ·rw [if_pos h,if_pos (by omega)]
 ·rw [if_neg h,if_neg (by omega)]
  by_cases h2 : b < a
  ·rw [if_pos h2,if_pos (by omega)]
  ·rw [if_neg h2,if_neg (by omega)]
theorem rLabCmp_any (a1 a2 : Option Addr) (c1 c2 : Nat) (l m : List (ByteArray × ByteArray)) (w : World) (hl : (l.length : Int) ≤ 9223372036854775807) (hm : (m.length : Int) ≤ 9223372036854775807) (h1 : LabA a1 l w) (h2 : LabA a2 m w) :
  Calls Tryz.prog 61 #[.slice a1 l.length c1,.slice a2 m.length c2] w fun e w' => e = .returned (.int .i64 (cmpLs l m)) ∧ Ext w w' := by
 obtain ⟨R,hR⟩ : ∃ R,cmpLs l m = R := ⟨_,rfl⟩
 rw [hR]
 go_enter Tryz.func61,Tryz.ntmps61
 go_wp2_with fail
 go_loopw [5] (fun i wr => ∃ k : Nat,i = .int .i64 k ∧ k ≤ l.length ∧ k ≤ m.length ∧ Hid (cmpLs (l.drop k) (m.drop k) = R) ∧ Ext w wr) (fun i _ => l.length - (intOf i).toNat)
 case atStart => exact ⟨0,rfl,Nat.zero_le _,Nat.zero_le _,Lib.hid hR,Ext.refl _⟩
 case round =>
  obtain ⟨k,rfl,hk,hk2,hz,xr⟩ := hrel
  have hd := hz.out
  clear hz hR
  by_cases hlt : k < l.length
  ·by_cases hlt2 : k < m.length
   ·rw [List.drop_eq_getElem_cons hlt,List.drop_eq_getElem_cons hlt2] at hd
    unfold cmpLs at hd
    obtain ⟨b1,o1,rfl,hb1,hL⟩ := h1 (by omega)
    obtain ⟨b2,o2,rfl,hb2,hM⟩ := h2 (by omega)
    obtain ⟨q0,q1⟩ := hL k hlt
    obtain ⟨s0,s1⟩ := hM k hlt2
    obtain ⟨x1,x2,ex⟩ : ∃ x1 x2,l[k] = (x1,x2) := ⟨_,_,rfl⟩
    obtain ⟨y1,y2,ey⟩ : ∃ y1 y2,m[k] = (y1,y2) := ⟨_,_,rfl⟩
    rw [ex] at hd q0 q1
    rw [ey] at hd s0 s1
    dsimp only at q0 q1 s0 s1
    have f0 : ∀ W,Ext wr W → W.cell? ⟨b1,o1 + k * 2,none⟩ = some (.string x1) ∧ W.cell? ⟨b2,o2 + k * 2,none⟩ = some (.string y1) := fun W x => ⟨((xr.trans x).cell hb1).trans q0,((xr.trans x).cell hb2).trans s0⟩
    have f1 : ∀ W,Ext wr W → W.cell? ⟨b1,o1 + k * 2 + 1,none⟩ = some (.string x2) ∧ W.cell? ⟨b2,o2 + k * 2 + 1,none⟩ = some (.string y2) := fun W x => ⟨((xr.trans x).cell hb1).trans q1,((xr.trans x).cell hb2).trans s1⟩
    have T1 := fun w => text_any x1 y1 w
    have T2 := fun w => text_any x2 y2 w
    unfold cmpL at hd
    dsimp only at hd
    have o1' : orL [cmpS x1 y1,cmpS x2 y2] = if cmpS x1 y1 ≠ 0 then cmpS x1 y1 else cmpS x2 y2 := by rw [orL_two]; rfl
    rw [o1'] at hd
    generalize cmpS x1 y1 = A1 at *
    generalize cmpS x2 y2 = A2 at *
    have i1 : (k : Int) < (l.length : Int) := by omega
    have i2 : (k : Int) < (m.length : Int) := by omega
    obtain ⟨z0,z1⟩ := f0 wr.drew (Ext.refl wr).drew
    clear h1 h2 hL hM ex ey o1' q0 q1 s0 s1
    by_cases e1 : A1 = 0
    ·subst e1
     simp only [ne_eq,not_true_eq_false,if_false] at hd
     by_cases e2 : A2 = 0
     ·subst e2
      simp only [not_true_eq_false,if_false] at hd
      replace hd := Lib.hid hd
      go_wp2_with fail
      go_region_held3 (fun w' => w'.cell? ⟨b1,o1 + k * 2,none⟩ = some (.string x1) ∧ w'.cell? ⟨b2,o2 + k * 2,none⟩ = some (.string y1)) (first | exact f0 _ (Ext.refl wr).drew | go_keep) (first
       | (go_at_call 92; (with_reducible refine (T1 _).mono ?_); rintro e wz ⟨rfl,rfl⟩))
      go_wp2_with fail
      go_region_held3 (fun w' => w'.cell? ⟨b1,o1 + k * 2 + 1,none⟩ = some (.string x2) ∧ w'.cell? ⟨b2,o2 + k * 2 + 1,none⟩ = some (.string y2)) (first | exact f1 _ (Ext.refl wr).drew.drew | go_keep) (first
       | (go_at_call 92; (with_reducible refine (T2 _).mono ?_); rintro e wz ⟨rfl,rfl⟩))
      go_wp2_with fail
      go_roundw
      case rel => exact ⟨k + 1,rfl,hlt,hlt2,hd,xr.trans (Ext.refl wr).drew.drew⟩
      case measure => simp only [intOf]; omega
     ·rw [if_pos e2] at hd
      subst hd
      go_wp2_with fail
      go_region_held3 (fun w' => w'.cell? ⟨b1,o1 + k * 2,none⟩ = some (.string x1) ∧ w'.cell? ⟨b2,o2 + k * 2,none⟩ = some (.string y1)) (first | exact f0 _ (Ext.refl wr).drew | go_keep) (first
       | (go_at_call 92; (with_reducible refine (T1 _).mono ?_); rintro e wz ⟨rfl,rfl⟩))
      go_wp2_with fail
      go_region_held3 (fun w' => w'.cell? ⟨b1,o1 + k * 2 + 1,none⟩ = some (.string x2) ∧ w'.cell? ⟨b2,o2 + k * 2 + 1,none⟩ = some (.string y2)) (first | exact f1 _ (Ext.refl wr).drew.drew | go_keep) (first
       | (go_at_call 92; (with_reducible refine (T2 _).mono ?_); rintro e wz ⟨rfl,rfl⟩))
      go_wp2_with fail
      go_ret
      exact ⟨rfl,xr.trans (Ext.refl wr).drew.drew⟩
    ·rw [if_pos e1] at hd
     rw [if_pos e1] at hd
     subst hd
     go_wp2_with fail
     go_region_held3 (fun w' => w'.cell? ⟨b1,o1 + k * 2,none⟩ = some (.string x1) ∧ w'.cell? ⟨b2,o2 + k * 2,none⟩ = some (.string y1)) (first | exact f0 _ (Ext.refl wr).drew | go_keep) (first
      | (go_at_call 92; (with_reducible refine (T1 _).mono ?_); rintro e wz ⟨rfl,rfl⟩))
     go_wp2_with fail
     go_ret
     exact ⟨rfl,xr.trans (Ext.refl wr).drew⟩
   ·have hk3 : k = m.length := by omega
    rw [show m.drop k = [] from List.drop_eq_nil_of_le (by omega),cmpLs_end2,List.length_drop] at hd
    have hR2 : cmpI (l.length : Int) (m.length : Int) = R := by
     rw [← hd,← cmpI_shift (l.length : Int) (m.length : Int) (k : Int)]
     congr 1 <;> omega
    have NU := fun w => number_any (l.length : Int) (m.length : Int) w
    rw [hR2] at NU
    have i1 : (k : Int) < (l.length : Int) := by omega
    have i2 : ¬ (k : Int) < (m.length : Int) := by omega
    clear hd hR2 h1 h2 hk3
    go_wp2_with fail
    (with_reducible refine (NU _).mono ?_)
    rintro e w1 ⟨rfl,rfl⟩
    go_wp2_with fail
    go_ret
    exact ⟨rfl,xr⟩
  ·have hk3 : k = l.length := by omega
   rw [show l.drop k = [] from List.drop_eq_nil_of_le (by omega),cmpLs_end1,List.length_drop] at hd
   have hR2 : cmpI (l.length : Int) (m.length : Int) = R := by
    rw [← hd,← cmpI_shift (l.length : Int) (m.length : Int) (k : Int)]
    congr 1 <;> omega
   have NU := fun w => number_any (l.length : Int) (m.length : Int) w
   rw [hR2] at NU
   have i1 : ¬ (k : Int) < (l.length : Int) := by omega
   clear hd hR2 h1 h2 hk3
   go_wp2_with fail
   (with_reducible refine (NU _).mono ?_)
   rintro e w1 ⟨rfl,rfl⟩
   go_wp2_with fail
   go_ret
   exact ⟨rfl,xr⟩
section
variable {P : Program} {ops : Array Oper} {Q : Exit → Act → World → Prop} {md : Region.Mode} {S : World → Prop}
def Tells (P : Program) (ops : Array Oper) (S : World → Prop) (o : Oper) (v : Value) (a : Act) : Prop :=
 Region.wanted o (yielded ops a.tmps) = true ∧ ∃ f args,(∀ w,S w → (execOp a.eval o).run P w = .ok (.enter f args) w) ∧ ∀ w,S w → Calls P f args w fun e w' => e = .returned v ∧ w' = w
theorem Tells.same {o : Oper} {v : Value} {a b : Act} (h : Tells P ops S o v a) (he : execOp b.eval o = execOp a.eval o) (hw : Region.wanted o (yielded ops b.tmps) = Region.wanted o (yielded ops a.tmps)) : Tells P ops S o v b := by
 unfold Tells
 rw [he,hw]
 exact h
theorem Tells.run {i : Nat} {o : Oper} {v : Value} {a : Act} {K : Act → World → Prop} {w : World} (hi : ops[i]? = some o) (h : Tells P ops S o v a) (hS : S w) (hK : K (a.put o.dst v) w) : wpOp P ops Q i K a w := by
 obtain ⟨h1,f,args,h2,h3⟩ := h
 unfold Go.wpOp
 simp only [hi,h1,if_true]
 refine .inl ?_
 unfold Oper.wp
 rw [h2 w hS]
 simp only [Oper.upon]
 refine (h3 w hS).mono fun e w' he => ?_
 obtain ⟨rfl,rfl⟩ := he
 exact hK
theorem Tells.put {o p : Oper} {v : Value} {a : Act} (h : Tells P ops S o v a) (hs : ∀ cs b,o.op ≠ .select cs b) (hp : o.apart ops p = true) (u : Value) : Tells P ops S o v (a.put p.dst u) :=
 h.same (execOp_put o hs a p.dst u (Oper.apart_spec hp).2.2) (wanted_put o a p.dst u (Oper.apart_spec hp).2.2)
theorem Tells.over {j : Nat} {o p : Oper} {v : Value} {K : Act → World → Prop} {a : Act} {w : World} (hj : ops[j]? = some p) (hp : o.apart ops p = true) (hs : ∀ cs b,o.op ≠ .select cs b) (hs2 : ∀ cs b,p.op ≠ .select cs b)
  (hQ : ∀ c a w,Q (.panic c) (a.put o.dst v) w → Q (.panic c) a w) (hy : Tells P ops S o v a) (h : wpOp P ops Q j K (a.put o.dst v) w) : wpOp P ops Q j (fun b w' => Tells P ops S o v b ∧ K (b.put o.dst v) w') a w := by
 obtain ⟨a1,a2,a3⟩ := Oper.apart_spec hp
 have hop : execOp (a.put o.dst v).eval p = execOp a.eval p := execOp_put p hs2 a o.dst v a1
 unfold Go.wpOp at h ⊢
 simp only [hj] at h ⊢
 rw [wanted_put p a o.dst v a1] at h
 by_cases hw : Region.wanted p (yielded ops a.tmps) = true
 ·simp only [hw,if_true] at h ⊢
  rcases h with h | ⟨q1,q2⟩
  ·refine .inl ?_
   unfold Oper.wp at h ⊢
   rw [hop] at h
   cases hr : (execOp a.eval p).run P w with
   | ok nx w1 =>
     rw [hr] at h
     cases nx <;> simp only [Oper.upon] at h ⊢
     case value u => exact ⟨hy.put hs hp u,by rw [← Act.put_comm a v u a2]; exact h⟩
     case skip => exact ⟨hy.put hs hp undef,by rw [← Act.put_comm a v undef a2]; exact h⟩
     case defer d =>
      have hd : Tells P ops S o v { a with defers := d :: a.defers } := hy.same rfl rfl
      exact ⟨hd.put hs hp undef,by rw [← Act.put_comm _ v undef a2,← Act.put_defers]; exact h⟩
     case enter f args =>
      refine Calls.mono h fun e w2 he => ?_
      cases e with
      | returned u => exact ⟨hy.put hs hp u,by rw [← Act.put_comm a v u a2]; exact he⟩
      | panicked c => exact hQ _ _ _ he
      | outgrown => exact he
     case row r args => exact Rows.mono h fun u w2 he => ⟨hy.put hs hp u,by rw [← Act.put_comm a v u a2]; exact he⟩
   | halt x w1 =>
     rw [hr] at h
     cases x <;> simp only [Oper.upon] at h ⊢
     case panic u => exact hQ _ _ _ h
  ·refine .inr ⟨?_,q2⟩
   unfold Oper.asks at q1 ⊢
   rw [hop] at q1
   exact q1
 ·simp only [hw] at h ⊢
  exact ⟨hy.put hs hp undef,by rw [← Act.put_comm a v undef a2]; exact h⟩
theorem tells_first {i : Nat} {o : Oper} {v : Value} (hi : ops[i]? = some o) (hsel : ∀ (j : Nat) (p : Oper) cs b,ops[j]? = some p → p.op ≠ .select cs b) (hQ : ∀ c a w,Q (.panic c) (a.put o.dst v) w → Q (.panic c) a w) :
  ∀ (fuel : Nat) (listed : Array Bool) (a : Act) (w : World),
   (∀ j p,ops[j]? = some p → j ≠ i → listed.getD j true = false → (∀ e ∈ p.after,Region.binds md e = true → e.on ≠ i) → o.apart ops p = true) →
   i ∈ Region.ready md ops listed → Tells P ops S o v a → S w → wpAnyH P md ops Q S fuel (listed.setIfInBounds i true) (a.put o.dst v) w → wpAnyH P md ops Q S (fuel + 1) listed a w := by
 intro fuel
 induction fuel with
 | zero =>
   intro listed a w _ hr hy hS H
   refine ⟨fun h => (by rw [h] at hr; cases hr),fun j hj => ?_⟩
   by_cases e : j = i
   ·subst e
    exact hy.run hi hS ⟨hS,H⟩
   ·have := ready_mono hj e
    rw [H.1] at this
    cases this
 | succ fuel ih =>
   intro listed a w hap hr hy hS H
   refine ⟨fun h => (by rw [h] at hr; cases hr),fun j hj => ?_⟩
   by_cases e : j = i
   ·subst e
    exact hy.run hi hS ⟨hS,H⟩
   ·obtain ⟨hun,p,hp,hall⟩ := mem_ready.1 hj
    have hno : ∀ x ∈ p.after,Region.binds md x = true → x.on ≠ i := by
     intro x hx hb he
     have l1 := hall x hx hb
     have l0 := (mem_ready.1 hr).1
     rw [he] at l1
     by_cases q : i < listed.size
     ·simp [q] at l0 l1; rw [l0] at l1; cases l1
     ·simp [Array.getElem?_eq_none (Nat.le_of_not_lt q)] at l1
    have key := hy.over hp (hap j p hp e hun hno) (fun cs b => hsel i o cs b hi) (fun cs b => hsel j p cs b hp) hQ (H.2 j (ready_mono hj e))
    refine wpOp_mono (fun b w1 hb => ⟨hb.2.1,ih (listed.setIfInBounds j true) b w1 ?_ (ready_mono hr (Ne.symm e)) hb.1 hb.2.1 ?_⟩) key
    ·intro k q hq hk hl hn
     by_cases ejk : j = k
     ·subst ejk; exact hap j q hq hk hun hn
     ·rw [getD_set_ne true ejk] at hl
      exact hap k q hq hk hl hn
    ·rw [Array.setIfInBounds_comm _ _ e]
     exact hb.2.2
theorem wpAnyH_tells {i : Nat} {o : Oper} {v : Value} {fuel : Nat} {listed : Array Bool} {a : Act} {w : World} (hi : ops[i]? = some o)
  (hs : Region.noSelect ops = true) (hf : Region.free md ops listed i = true) (hr : (Region.ready md ops listed).contains i = true)
  (hQ : ∀ c a w,Q (.panic c) (a.put o.dst v) w → Q (.panic c) a w) (hy : Tells P ops S o v a) (hS : S w)
  (h : wpAnyH P md ops Q S fuel (listed.setIfInBounds i true) (a.put o.dst v) w) : wpAnyH P md ops Q S (fuel + 1) listed a w :=
 tells_first hi (Region.noSelect_spec hs) hQ fuel listed a w (Region.free_spec hi hf) (by simpa using hr) hy hS h
end
end Go.Proofs.YtjjnmefihdjglaaGreat
namespace Go.Proofs.YtjjnmefihdjglaaGreat
open Go.RowKit
theorem build_four (a b c d e f g h : Int) (w : World) : (Instr.build 97 #[(0,.agg #[.int .i64 a,.int .i64 b]),(1,.agg #[.int .i64 c,.int .i64 d]),(2,.agg #[.int .i64 e,.int .i64 f]),(3,.agg #[.int .i64 g,.int .i64 h])]).run Tryz.prog w = .ok (.agg #[.int .i64 a,.int .i64 b,.int .i64 c,.int .i64 d,.int .i64 e,.int .i64 f,.int .i64 g,.int .i64 h]) w := by
 kernel_rfl
theorem lex2_z (b : Int) : lex2 0 b = b := by unfold lex2; simp
theorem rPtCmp_any (a1 a2 : Option Addr) (c1 c2 : Nat) (l1 l2 : List (ByteArray × ByteArray)) (r1 : Int) (f1 : Bool) (M1 S1 m1 s1 : Int) (t1 : Bool) (T1 : Int) (r2 : Int) (f2 : Bool) (M2 S2 m2 s2 : Int) (t2 : Bool) (T2 : Int) (w : World)
  (n1 : (l1.length : Int) ≤ 9223372036854775807) (n2 : (l2.length : Int) ≤ 9223372036854775807) (h1 : LabA a1 l1 w) (h2 : LabA a2 l2 w) (i1 : I64 M1) (j1 : I64 S1) (i2 : I64 M2) (j2 : I64 S2) :
  Calls Tryz.prog 34 #[ptV (.slice a1 l1.length c1) r1 f1 M1 S1 m1 s1 t1 T1,ptV (.slice a2 l2.length c2) r2 f2 M2 S2 m2 s2 t2 T2] w fun e w' => e = .returned (.int .i64 (cmpP l1 r1 f1 M1 S1 t1 T1 l2 r2 f2 M2 S2 t2 T2)) ∧ Ext w w' := by
 have K1 := fun W (x : Ext w W) => rLabCmp_any a1 a2 c1 c2 l1 l2 W n1 n2 (h1.ext x) (h2.ext x)
 have K6 := fun W => RCompare_any M1 S1 M2 S2 W i1 j1 i2 j2
 rw [← rcV_is _ _ _ _ (cS_in M1 S1) (cS_in M2 S2)] at K6
 obtain ⟨R,hR⟩ : ∃ R,cmpP l1 r1 f1 M1 S1 t1 T1 l2 r2 f2 M2 S2 t2 T2 = R := ⟨_,rfl⟩
 rw [hR]
 unfold cmpP at hR
 rw [← fl_cmp t1 t2,← fl_cmp f1 f2] at hR
 generalize cmpLs l1 l2 = X0 at *
 generalize cmpD (cM M1 S1) (cS M1 S1) (cM M2 S2) (cS M2 S2) = X5 at *
 obtain ⟨v1,hv1⟩ : ∃ v,Value.slice a1 l1.length c1 = v := ⟨_,rfl⟩
 obtain ⟨v2,hv2⟩ : ∃ v,Value.slice a2 l2.length c2 = v := ⟨_,rfl⟩
 rw [hv1,hv2] at K1
 rw [hv1,hv2]
 unfold decV at K6
 unfold ptV
 clear hv1 hv2 h1 h2 n1 n2 i1 j1 i2 j2
 obtain ⟨W,hW⟩ : ∃ W,(w.alloc (.cells #[v1,.int .i64 r1,.bool f1,.int .i64 M1,.int .i64 S1,.int .i64 m1,.int .i64 s1,.bool t1,.int .i64 T1] 40)).alloc (.cells #[v2,.int .i64 r2,.bool f2,.int .i64 M2,.int .i64 S2,.int .i64 m2,.int .i64 s2,.bool t2,.int .i64 T2] 40) = W := ⟨_,rfl⟩
 have hx : Ext w W := by rw [← hW]; exact ((Ext.refl _).alloc _).alloc _
 have g1 : PtIn w.heap.size v1 r1 f1 M1 S1 m1 s1 t1 T1 W := by rw [← hW]; exact heap_at2a _ _ _
 have g2 : PtIn (w.heap.size + 1) v2 r2 f2 M2 S2 m2 s2 t2 T2 W := by rw [← hW]; exact heap_at2b _ _ _
 replace hW := Lib.hid hW
 obtain ⟨k0,k1,k2,k3,k4,k5,k6,k7,k8⟩ := g1.cells
 obtain ⟨p0,p1,p2,p3,p4,p5,p6,p7,p8⟩ := g2.cells
 go_enter Tryz.func34,Tryz.ntmps34
 go_wp2_with fail
 rw [hW.out]
 (with_reducible refine (K1 _ hx).mono ?_)
 rintro e w1 ⟨rfl,x1⟩
 replace g1 := g1.ext x1
 replace g2 := g2.ext x1
 have hx1 := hx.trans x1
 clear k0 k1 k2 k3 k4 k5 k6 k7 k8 p0 p1 p2 p3 p4 p5 p6 p7 p8 hW x1 hx K1
 obtain ⟨B1,hB1⟩ : ∃ B,w.heap.size = B := ⟨_,rfl⟩
 obtain ⟨B2,hB2⟩ : ∃ B,w.heap.size + 1 = B := ⟨_,rfl⟩
 rw [hB2] at g2 ⊢
 rw [hB1] at g1 ⊢
 clear hB1 hB2
 by_cases e0 : X0 = 0
 ·subst e0
  obtain ⟨k0,k1,k2,k3,k4,k5,k6,k7,k8⟩ := g1.cells
  obtain ⟨p0,p1,p2,p3,p4,p5,p6,p7,p8⟩ := g2.cells
  have hb1 : B1 < w1.heap.size := (Array.getElem?_eq_some_iff.1 g1).1
  have hb2 : B2 < w1.heap.size := (Array.getElem?_eq_some_iff.1 g2).1
  have FL1 := fun w => flag_any t1 w
  have FL2 := fun w => flag_any t2 w
  have FL3 := fun w => flag_any f1 w
  have FL4 := fun w => flag_any f2 w
  have hR2 : orL [cmpI (fl t1) (fl t2),cmpI T1 T2,cmpI r1 r2,cmpI (fl f1) (fl f2),X5] = R := by rw [← hR,orL_cons 0,lex2_z]
  replace hR2 := Lib.hid hR2
  clear hR
  go_upto_region 4 with fail
  go_cut [6] (fun u wx => u = .pointer (some ⟨w1.heap.size,0,none⟩) ∧ wx.heap[w1.heap.size]? = some (.cells #[.int .i64 (fl t1),.int .i64 (fl t2),.int .i64 T1,.int .i64 T2,.int .i64 r1,.int .i64 r2,.int .i64 (fl f1),.int .i64 (fl f2)] 97 (0,0)) ∧ Ext w1 wx)
  case first =>
   as_aux_lemma =>
   generalize fl t1 = A1 at *
   generalize fl t2 = A2 at *
   generalize fl f1 = A3 at *
   generalize fl f2 = A4 at *
   have q0 : w1.drew.cell? ⟨B1,7,none⟩ = some (.bool t1) ∧ w1.drew.cell? ⟨B2,7,none⟩ = some (.bool t2) ∧ w1.drew.cell? ⟨B1,8,none⟩ = some (.int .i64 T1) ∧ w1.drew.cell? ⟨B2,8,none⟩ = some (.int .i64 T2) ∧ w1.drew.cell? ⟨B1,1,none⟩ = some (.int .i64 r1) ∧ w1.drew.cell? ⟨B2,1,none⟩ = some (.int .i64 r2) ∧ w1.drew.cell? ⟨B1,2,none⟩ = some (.bool f1) ∧ w1.drew.cell? ⟨B2,2,none⟩ = some (.bool f2) := ⟨k7,p7,k8,p8,k1,p1,k2,p2⟩
   have hn1 : ¬ w1.heap.size = B1 := by omega
   have hn2 : ¬ w1.heap.size = B2 := by omega
   clear g1 g2 hx1 K6 hR2
   refine wp_region_held_drew (S := fun w' => w'.cell? ⟨B1,7,none⟩ = some (.bool t1) ∧ w'.cell? ⟨B2,7,none⟩ = some (.bool t2) ∧ w'.cell? ⟨B1,8,none⟩ = some (.int .i64 T1) ∧ w'.cell? ⟨B2,8,none⟩ = some (.int .i64 T2) ∧ w'.cell? ⟨B1,1,none⟩ = some (.int .i64 r1) ∧ w'.cell? ⟨B2,1,none⟩ = some (.int .i64 r2) ∧ w'.cell? ⟨B1,2,none⟩ = some (.bool f1) ∧ w'.cell? ⟨B2,2,none⟩ = some (.bool f2)) (by kernel_rfl) (q0) (fun hH => ?_)
   refine tk 0 rfl (by kernel_rfl) (fun _ _ _ h => h) rfl (fun w9 hS9 => by go_simp; (try rfl)) hH ?_
   try simp only [Act.put,aT,aZ,aS]
   refine tk 1 rfl (by kernel_rfl) (fun _ _ _ h => h) rfl (fun w9 hS9 => by obtain ⟨z1,z2,z3,z4,z5,z6,z7,z8⟩ := hS9; go_simp; (try rfl)) hH ?_
   try simp only [Act.put,aT,aZ,aS]
   refine wpAnyH_tells (i := 2) (o := ?om3) (v := .int .i64 A1) ?him3 (by kernel_rfl) (by kernel_rfl) (by kernel_rfl) ?hQm3 ⟨?hwm3,62,#[.bool t1],?hrm3,fun w9 _ => FL1 w9⟩ hH ?restm3
   case him3 => simp only [List.getElem?_toArray,List.getElem?_cons_succ,List.getElem?_cons_zero]; rfl
   case hQm3 => exact fun _ _ _ h => h
   case hwm3 => rfl
   case hrm3 => (intro w9 _; go_simp; (try rfl))
   case restm3 =>
   try simp only [Act.put,aT,aZ,aS]
   refine tk 3 rfl (by kernel_rfl) (fun _ _ _ h => h) rfl (fun w9 hS9 => by go_simp; (try rfl)) hH ?_
   try simp only [Act.put,aT,aZ,aS]
   refine tk 4 rfl (by kernel_rfl) (fun _ _ _ h => h) rfl (fun w9 hS9 => by obtain ⟨z1,z2,z3,z4,z5,z6,z7,z8⟩ := hS9; go_simp; (try rfl)) hH ?_
   try simp only [Act.put,aT,aZ,aS]
   refine wpAnyH_tells (i := 5) (o := ?om6) (v := .int .i64 A2) ?him6 (by kernel_rfl) (by kernel_rfl) (by kernel_rfl) ?hQm6 ⟨?hwm6,62,#[.bool t2],?hrm6,fun w9 _ => FL2 w9⟩ hH ?restm6
   case him6 => simp only [List.getElem?_toArray,List.getElem?_cons_succ,List.getElem?_cons_zero]; rfl
   case hQm6 => exact fun _ _ _ h => h
   case hwm6 => rfl
   case hrm6 => (intro w9 _; go_simp; (try rfl))
   case restm6 =>
   try simp only [Act.put,aT,aZ,aS]
   refine tk 6 rfl (by kernel_rfl) (fun _ _ _ h => h) rfl (fun w9 hS9 => by go_simp; (try rfl)) hH ?_
   try simp only [Act.put,aT,aZ,aS]
   refine tk 7 rfl (by kernel_rfl) (fun _ _ _ h => h) rfl (fun w9 hS9 => by go_simp; (try rfl)) hH ?_
   try simp only [Act.put,aT,aZ,aS]
   refine tk 8 rfl (by kernel_rfl) (fun _ _ _ h => h) rfl (fun w9 hS9 => by obtain ⟨z1,z2,z3,z4,z5,z6,z7,z8⟩ := hS9; go_simp; (try rfl)) hH ?_
   try simp only [Act.put,aT,aZ,aS]
   refine tk 9 rfl (by kernel_rfl) (fun _ _ _ h => h) rfl (fun w9 hS9 => by go_simp; (try rfl)) hH ?_
   try simp only [Act.put,aT,aZ,aS]
   refine tk 10 rfl (by kernel_rfl) (fun _ _ _ h => h) rfl (fun w9 hS9 => by obtain ⟨z1,z2,z3,z4,z5,z6,z7,z8⟩ := hS9; go_simp; (try rfl)) hH ?_
   try simp only [Act.put,aT,aZ,aS]
   refine tk 11 rfl (by kernel_rfl) (fun _ _ _ h => h) rfl (fun w9 hS9 => by go_simp; (try rfl)) hH ?_
   try simp only [Act.put,aT,aZ,aS]
   refine tk 12 rfl (by kernel_rfl) (fun _ _ _ h => h) rfl (fun w9 hS9 => by go_simp; (try rfl)) hH ?_
   try simp only [Act.put,aT,aZ,aS]
   refine tk 13 rfl (by kernel_rfl) (fun _ _ _ h => h) rfl (fun w9 hS9 => by obtain ⟨z1,z2,z3,z4,z5,z6,z7,z8⟩ := hS9; go_simp; (try rfl)) hH ?_
   try simp only [Act.put,aT,aZ,aS]
   refine tk 14 rfl (by kernel_rfl) (fun _ _ _ h => h) rfl (fun w9 hS9 => by go_simp; (try rfl)) hH ?_
   try simp only [Act.put,aT,aZ,aS]
   refine tk 15 rfl (by kernel_rfl) (fun _ _ _ h => h) rfl (fun w9 hS9 => by obtain ⟨z1,z2,z3,z4,z5,z6,z7,z8⟩ := hS9; go_simp; (try rfl)) hH ?_
   try simp only [Act.put,aT,aZ,aS]
   refine tk 16 rfl (by kernel_rfl) (fun _ _ _ h => h) rfl (fun w9 hS9 => by go_simp; (try rfl)) hH ?_
   try simp only [Act.put,aT,aZ,aS]
   refine tk 17 rfl (by kernel_rfl) (fun _ _ _ h => h) rfl (fun w9 hS9 => by go_simp; (try rfl)) hH ?_
   try simp only [Act.put,aT,aZ,aS]
   refine tk 18 rfl (by kernel_rfl) (fun _ _ _ h => h) rfl (fun w9 hS9 => by obtain ⟨z1,z2,z3,z4,z5,z6,z7,z8⟩ := hS9; go_simp; (try rfl)) hH ?_
   try simp only [Act.put,aT,aZ,aS]
   refine wpAnyH_tells (i := 19) (o := ?om20) (v := .int .i64 A3) ?him20 (by kernel_rfl) (by kernel_rfl) (by kernel_rfl) ?hQm20 ⟨?hwm20,62,#[.bool f1],?hrm20,fun w9 _ => FL3 w9⟩ hH ?restm20
   case him20 => simp only [List.getElem?_toArray,List.getElem?_cons_succ,List.getElem?_cons_zero]; rfl
   case hQm20 => exact fun _ _ _ h => h
   case hwm20 => rfl
   case hrm20 => (intro w9 _; go_simp; (try rfl))
   case restm20 =>
   try simp only [Act.put,aT,aZ,aS]
   refine tk 20 rfl (by kernel_rfl) (fun _ _ _ h => h) rfl (fun w9 hS9 => by go_simp; (try rfl)) hH ?_
   try simp only [Act.put,aT,aZ,aS]
   refine tk 21 rfl (by kernel_rfl) (fun _ _ _ h => h) rfl (fun w9 hS9 => by obtain ⟨z1,z2,z3,z4,z5,z6,z7,z8⟩ := hS9; go_simp; (try rfl)) hH ?_
   try simp only [Act.put,aT,aZ,aS]
   refine wpAnyH_tells (i := 22) (o := ?om23) (v := .int .i64 A4) ?him23 (by kernel_rfl) (by kernel_rfl) (by kernel_rfl) ?hQm23 ⟨?hwm23,62,#[.bool f2],?hrm23,fun w9 _ => FL4 w9⟩ hH ?restm23
   case him23 => simp only [List.getElem?_toArray,List.getElem?_cons_succ,List.getElem?_cons_zero]; rfl
   case hQm23 => exact fun _ _ _ h => h
   case hwm23 => rfl
   case hrm23 => (intro w9 _; go_simp; (try rfl))
   case restm23 =>
   try simp only [Act.put,aT,aZ,aS]
   refine tk 23 rfl (by kernel_rfl) (fun _ _ _ h => h) rfl (fun w9 hS9 => by go_simp; (try rfl)) hH ?_
   try simp only [Act.put,aT,aZ,aS]
   refine wpAnyH_take (i := 24) (oi := ?oim25) (v := .agg #[.int .i64 A1,.int .i64 A2,.int .i64 T1,.int .i64 T2,.int .i64 r1,.int .i64 r2,.int .i64 A3,.int .i64 A4]) ?him25 (by kernel_rfl) (by kernel_rfl) (by kernel_rfl) ?hQm25 (Or.inl ⟨?hwm25,?hym25⟩) hH ?restm25
   case him25 => simp only [List.getElem?_toArray,List.getElem?_cons_succ,List.getElem?_cons_zero]; rfl
   case hQm25 => exact fun _ _ _ h => h
   case hwm25 => rfl
   case hym25 => (intro w9 hS9; have this := build_four A1 A2 T1 T2 r1 r2 A3 A4 w9; simp only [execOp,List.map_toArray,List.map_cons,List.map_nil]; show Sem.run Tryz.prog (do let v ← Instr.build 97 #[(0,.agg #[.int .i64 A1,.int .i64 A2]),(1,.agg #[.int .i64 T1,.int .i64 T2]),(2,.agg #[.int .i64 r1,.int .i64 r2]),(3,.agg #[.int .i64 A3,.int .i64 A4])]; pure (Next.value v)) w9 = _; rw [Sem.run_bind,this]; rfl)
   case restm25 =>
   try simp only [Act.put,aT,aZ,aS]
   refine wR (rs := [25]) (by kernel_rfl) (by simp) (aR rfl (fun K hK => ?_) aN)
   rw [if_pos (by rfl)]
   go_simp
   refine hK.out _ _ (by go_keep) (fun hH => ?_)
   clear hK K
   try simp only [aT,aZ,aS]
   refine wR (rs := [26]) (by kernel_rfl) (by simp) (aR rfl (fun K hK => ?_) aN)
   rw [if_pos (by rfl)]
   go_simp
   refine hK.out _ _ (by go_keep) (fun hH => ?_)
   clear hK K
   try simp only [aT,aZ,aS]
   refine wpAnyH_done (by kernel_rfl) ?_ _
   all_goals
    go_wp2_with fail
    go_meet
    case rel => exact ⟨rfl,heap_last _ _,(Ext.refl w1).drew.alloc _⟩
  case rest =>
  as_aux_lemma =>
  obtain ⟨rfl,hh,xc⟩ := hcut
  replace g1 := g1.ext xc
  replace g2 := g2.ext xc
  replace hx1 := hx1.trans xc
  obtain ⟨nb,hnb⟩ : ∃ nb,w1.heap.size = nb := ⟨_,rfl⟩
  rw [hnb] at hh ⊢
  clear hnb xc k0 k1 k2 k3 k4 k5 k6 k7 k8 p0 p1 p2 p3 p4 p5 p6 p7 p8 hb1 hb2 FL1 FL2 FL3 FL4
  go_wp2_with fail
  go_loopw [7] (fun i wr => ∃ k : Nat,i = .int .i64 k ∧ k ≤ 4 ∧ Hid (orL (([cmpI (fl t1) (fl t2),cmpI T1 T2,cmpI r1 r2,cmpI (fl f1) (fl f2),X5] : List Int).drop k) = R) ∧ Ext wc wr) (fun i _ => 4 - (intOf i).toNat)
  case atStart => exact ⟨0,rfl,by omega,hR2,Ext.refl _⟩
  case round =>
   obtain ⟨k,rfl,hk,hd,xr⟩ := hrel
   clear hR2
   have hhr := (xr.heap (Array.getElem?_eq_some_iff.1 hh).1).trans hh
   by_cases h4 : k < 4
   ·rcases (show k = 0 ∨ k = 1 ∨ k = 2 ∨ k = 3 from by omega) with rfl | rfl | rfl | rfl
    ·have z0 : wr.drew.cell? ⟨nb,0,none⟩ = some (.int .i64 (fl t1)) := by rw [World.cell?_drew,Lib.cell_of_heap hhr]; rfl
     have z1 : wr.drew.cell? ⟨nb,1,none⟩ = some (.int .i64 (fl t2)) := by rw [World.cell?_drew,Lib.cell_of_heap hhr]; rfl
     have NU := fun w => number_any (fl t1) (fl t2) w
     have hd2 : lex2 (cmpI (fl t1) (fl t2)) (orL (([cmpI (fl t1) (fl t2),cmpI T1 T2,cmpI r1 r2,cmpI (fl f1) (fl f2),X5] : List Int).drop 1)) = R := hd.out
     clear hhr hd
     obtain ⟨cv,hcv⟩ : ∃ cv,cmpI (fl t1) (fl t2) = cv := ⟨_,rfl⟩
     rw [hcv] at NU hd2
     clear hcv
     by_cases e0 : cv = 0
     ·subst e0
      rw [lex2_z] at hd2
      replace hd2 := Lib.hid hd2
      go_wp2_with fail
      go_region_held3 (fun w' => w'.cell? ⟨nb,0,none⟩ = some (.int .i64 (fl t1)) ∧ w'.cell? ⟨nb,1,none⟩ = some (.int .i64 (fl t2))) (first | exact ⟨z0,z1⟩ | go_keep) (first
       | (go_at_call 63; (with_reducible refine (NU _).mono ?_); rintro e wz ⟨rfl,rfl⟩))
      go_wp2_with fail
      go_roundw
      case rel => exact ⟨1,rfl,by omega,hd2,xr.drew⟩
      case measure => simp only [intOf]; omega
     ·have hd3 : cv = R := by rw [← hd2]; unfold lex2; rw [if_pos e0]
      subst hd3
      clear hd2
      go_wp2_with fail
      go_region_held3 (fun w' => w'.cell? ⟨nb,0,none⟩ = some (.int .i64 (fl t1)) ∧ w'.cell? ⟨nb,1,none⟩ = some (.int .i64 (fl t2))) (first | exact ⟨z0,z1⟩ | go_keep) (first
       | (go_at_call 63; (with_reducible refine (NU _).mono ?_); rintro e wz ⟨rfl,rfl⟩))
      go_wp2_with fail
      go_ret
      exact ⟨rfl,hx1.trans xr.drew⟩
    ·have z0 : wr.drew.cell? ⟨nb,2,none⟩ = some (.int .i64 T1) := by rw [World.cell?_drew,Lib.cell_of_heap hhr]; rfl
     have z1 : wr.drew.cell? ⟨nb,3,none⟩ = some (.int .i64 T2) := by rw [World.cell?_drew,Lib.cell_of_heap hhr]; rfl
     have NU := fun w => number_any T1 T2 w
     have hd2 : lex2 (cmpI T1 T2) (orL (([cmpI (fl t1) (fl t2),cmpI T1 T2,cmpI r1 r2,cmpI (fl f1) (fl f2),X5] : List Int).drop 2)) = R := hd.out
     clear hhr hd
     obtain ⟨cv,hcv⟩ : ∃ cv,cmpI T1 T2 = cv := ⟨_,rfl⟩
     rw [hcv] at NU hd2
     clear hcv
     by_cases e0 : cv = 0
     ·subst e0
      rw [lex2_z] at hd2
      replace hd2 := Lib.hid hd2
      go_wp2_with fail
      go_region_held3 (fun w' => w'.cell? ⟨nb,2,none⟩ = some (.int .i64 T1) ∧ w'.cell? ⟨nb,3,none⟩ = some (.int .i64 T2)) (first | exact ⟨z0,z1⟩ | go_keep) (first
       | (go_at_call 63; (with_reducible refine (NU _).mono ?_); rintro e wz ⟨rfl,rfl⟩))
      go_wp2_with fail
      go_roundw
      case rel => exact ⟨2,rfl,by omega,hd2,xr.drew⟩
      case measure => simp only [intOf]; omega
     ·have hd3 : cv = R := by rw [← hd2]; unfold lex2; rw [if_pos e0]
      subst hd3
      clear hd2
      go_wp2_with fail
      go_region_held3 (fun w' => w'.cell? ⟨nb,2,none⟩ = some (.int .i64 T1) ∧ w'.cell? ⟨nb,3,none⟩ = some (.int .i64 T2)) (first | exact ⟨z0,z1⟩ | go_keep) (first
       | (go_at_call 63; (with_reducible refine (NU _).mono ?_); rintro e wz ⟨rfl,rfl⟩))
      go_wp2_with fail
      go_ret
      exact ⟨rfl,hx1.trans xr.drew⟩
    ·have z0 : wr.drew.cell? ⟨nb,4,none⟩ = some (.int .i64 r1) := by rw [World.cell?_drew,Lib.cell_of_heap hhr]; rfl
     have z1 : wr.drew.cell? ⟨nb,5,none⟩ = some (.int .i64 r2) := by rw [World.cell?_drew,Lib.cell_of_heap hhr]; rfl
     have NU := fun w => number_any r1 r2 w
     have hd2 : lex2 (cmpI r1 r2) (orL (([cmpI (fl t1) (fl t2),cmpI T1 T2,cmpI r1 r2,cmpI (fl f1) (fl f2),X5] : List Int).drop 3)) = R := hd.out
     clear hhr hd
     obtain ⟨cv,hcv⟩ : ∃ cv,cmpI r1 r2 = cv := ⟨_,rfl⟩
     rw [hcv] at NU hd2
     clear hcv
     by_cases e0 : cv = 0
     ·subst e0
      rw [lex2_z] at hd2
      replace hd2 := Lib.hid hd2
      go_wp2_with fail
      go_region_held3 (fun w' => w'.cell? ⟨nb,4,none⟩ = some (.int .i64 r1) ∧ w'.cell? ⟨nb,5,none⟩ = some (.int .i64 r2)) (first | exact ⟨z0,z1⟩ | go_keep) (first
       | (go_at_call 63; (with_reducible refine (NU _).mono ?_); rintro e wz ⟨rfl,rfl⟩))
      go_wp2_with fail
      go_roundw
      case rel => exact ⟨3,rfl,by omega,hd2,xr.drew⟩
      case measure => simp only [intOf]; omega
     ·have hd3 : cv = R := by rw [← hd2]; unfold lex2; rw [if_pos e0]
      subst hd3
      clear hd2
      go_wp2_with fail
      go_region_held3 (fun w' => w'.cell? ⟨nb,4,none⟩ = some (.int .i64 r1) ∧ w'.cell? ⟨nb,5,none⟩ = some (.int .i64 r2)) (first | exact ⟨z0,z1⟩ | go_keep) (first
       | (go_at_call 63; (with_reducible refine (NU _).mono ?_); rintro e wz ⟨rfl,rfl⟩))
      go_wp2_with fail
      go_ret
      exact ⟨rfl,hx1.trans xr.drew⟩
    ·have z0 : wr.drew.cell? ⟨nb,6,none⟩ = some (.int .i64 (fl f1)) := by rw [World.cell?_drew,Lib.cell_of_heap hhr]; rfl
     have z1 : wr.drew.cell? ⟨nb,7,none⟩ = some (.int .i64 (fl f2)) := by rw [World.cell?_drew,Lib.cell_of_heap hhr]; rfl
     have NU := fun w => number_any (fl f1) (fl f2) w
     have hd2 : lex2 (cmpI (fl f1) (fl f2)) (orL (([cmpI (fl t1) (fl t2),cmpI T1 T2,cmpI r1 r2,cmpI (fl f1) (fl f2),X5] : List Int).drop 4)) = R := hd.out
     clear hhr hd
     obtain ⟨cv,hcv⟩ : ∃ cv,cmpI (fl f1) (fl f2) = cv := ⟨_,rfl⟩
     rw [hcv] at NU hd2
     clear hcv
     by_cases e0 : cv = 0
     ·subst e0
      rw [lex2_z] at hd2
      replace hd2 := Lib.hid hd2
      go_wp2_with fail
      go_region_held3 (fun w' => w'.cell? ⟨nb,6,none⟩ = some (.int .i64 (fl f1)) ∧ w'.cell? ⟨nb,7,none⟩ = some (.int .i64 (fl f2))) (first | exact ⟨z0,z1⟩ | go_keep) (first
       | (go_at_call 63; (with_reducible refine (NU _).mono ?_); rintro e wz ⟨rfl,rfl⟩))
      go_wp2_with fail
      go_roundw
      case rel => exact ⟨4,rfl,by omega,hd2,xr.drew⟩
      case measure => simp only [intOf]; omega
     ·have hd3 : cv = R := by rw [← hd2]; unfold lex2; rw [if_pos e0]
      subst hd3
      clear hd2
      go_wp2_with fail
      go_region_held3 (fun w' => w'.cell? ⟨nb,6,none⟩ = some (.int .i64 (fl f1)) ∧ w'.cell? ⟨nb,7,none⟩ = some (.int .i64 (fl f2))) (first | exact ⟨z0,z1⟩ | go_keep) (first
       | (go_at_call 63; (with_reducible refine (NU _).mono ?_); rintro e wz ⟨rfl,rfl⟩))
      go_wp2_with fail
      go_ret
      exact ⟨rfl,hx1.trans xr.drew⟩
   ·obtain rfl : k = 4 := by omega
    have hd2 : X5 = R := by
     have := hd.out
     rw [← this]
     show X5 = lex2 X5 0
     exact (lex2_zero X5).symm
    subst hd2
    clear hd
    have q1 := (g1.ext xr).cells
    have q2 := (g2.ext xr).cells
    obtain ⟨k0,k1,k2,k3,k4,k5,k6,k7,k8⟩ := q1
    obtain ⟨p0,p1,p2,p3,p4,p5,p6,p7,p8⟩ := q2
    go_wp2_with fail
    (with_reducible refine (K6 _).mono ?_)
    rintro e w3 ⟨rfl,x3⟩
    go_wp2_with fail
    go_ret
    exact ⟨rfl,(hx1.trans xr).trans x3⟩
 ·have hR2 : X0 = R := by rw [← hR,orL_cons]; unfold lex2; rw [if_pos e0]
  subst hR2
  clear hR
  go_wp2_with fail
  go_ret
  exact ⟨rfl,hx1⟩
end Go.Proofs.YtjjnmefihdjglaaGreat
