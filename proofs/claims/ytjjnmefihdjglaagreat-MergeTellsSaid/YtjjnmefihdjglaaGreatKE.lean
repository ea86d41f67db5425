import Derived.Test.YtjjnmefihdjglaaGreatKB
import Derived.Deep.AppendSrc
import Derived.Laws.AppendOwn
import Derived.Deep.AppendLies
import Derived.Lib.AppendZerosOnto
import Derived.Laws.MakeOwn
import Derived.Deep.RegionHeld3
import Derived.Deep.DeepCutAuto
set_option maxRecDepth 100000
set_option maxHeartbeats 64000000
set_option linter.all false
namespace Go.Proofs.YtjjnmefihdjglaaGreat
open Go.RowKit
def digs (N : Nat) : List Nat := if _h : N = 0 then [] else digs (N / 10) ++ [N % 10]
termination_by N
decreasing_by omega
theorem digs_zero : digs 0 = [] := by rw [digs]; simp
theorem digs_pos {N : Nat} (h : 0 < N) : digs N = digs (N / 10) ++ [N % 10] := by rw [digs]; simp; intro h0; omega
def valD : List Nat → Nat := fun l => l.foldl (fun n d => n * 10 + d) 0
theorem valD_append (l m : List Nat) : valD (l ++ m) = m.foldl (fun n d => n * 10 + d) (valD l) := by unfold valD; rw [List.foldl_append]
theorem valD_snoc (l : List Nat) (d : Nat) : valD (l ++ [d]) = valD l * 10 + d := by rw [valD_append]; rfl
theorem valD_digs : ∀ N,valD (digs N) = N := by
 intro N
 induction N using Nat.strongRecOn with
 | ind N ih =>
   by_cases h : N = 0
   ·subst h; rw [digs_zero]; rfl
   ·rw [digs_pos (by omega),valD_snoc,ih (N / 10) (by omega)]; omega
theorem digs_lt : ∀ N,∀ d ∈ digs N,d < 10 := by
 intro N
 induction N using Nat.strongRecOn with
 | ind N ih =>
   intro d hd
   by_cases h : N = 0
   ·subst h; rw [digs_zero] at hd; cases hd
   ·rw [digs_pos (by omega)] at hd
    rcases List.mem_append.1 hd with hd | hd
    ·exact ih _ (by omega) d hd
    ·rw [List.mem_singleton] at hd; omega
theorem digs_ne {N : Nat} (h : 0 < N) : digs N ≠ [] := by rw [digs_pos h]; simp
theorem digs_length {N k : Nat} (h : N < 10 ^ k) : (digs N).length ≤ k := by
 induction k generalizing N with
 | zero => rw [Nat.pow_zero] at h; obtain rfl : N = 0 := by omega
           rw [digs_zero]; exact Nat.le_refl _
 | succ k ih =>
   by_cases h0 : N = 0
   ·subst h0; rw [digs_zero]; exact Nat.zero_le _
   ·rw [digs_pos (by omega),List.length_append]
    rw [Nat.pow_succ] at h
    have := ih (N := N / 10) (by omega)
    simp; exact this
theorem digs_low {N : Nat} (h : 0 < N) : 10 ^ ((digs N).length - 1) ≤ N := by
 induction N using Nat.strongRecOn with
 | ind N ih =>
   rw [digs_pos h,List.length_append]
   by_cases h1 : N / 10 = 0
   ·rw [h1,digs_zero]; simp; exact h
   ·have := ih (N / 10) (by omega) (by omega)
    have hl : 0 < (digs (N / 10)).length := List.length_pos_iff.2 (digs_ne (by omega))
    simp only [List.length_cons,List.length_nil]
    rw [show (digs (N / 10)).length + (0 + 1) - 1 = ((digs (N / 10)).length - 1) + 1 from by omega,Nat.pow_succ]
    omega
def cmpEq : List Nat → List Nat → Int
 | a :: l,b :: m => if a < b then -1 else if b < a then 1 else cmpEq l m
 | _,_ => 0
def cmpDg (a b : List Nat) : Int := if a.length = b.length then cmpEq a b else if a.length < b.length then -1 else 1
theorem foldl_val (n : Nat) (l : List Nat) : l.foldl (fun n d => n * 10 + d) n = n * 10 ^ l.length + valD l := by
 induction l generalizing n with
 | nil => simp [valD]
 | cons d l ih =>
   unfold valD
   rw [List.foldl_cons,ih,List.foldl_cons,ih (0 * 10 + d),List.length_cons,Nat.pow_succ]
   rw [Nat.add_mul,Nat.mul_comm (10 ^ l.length) 10,Nat.mul_assoc,Nat.zero_mul,Nat.zero_add,Nat.add_assoc]
theorem valD_cons (d : Nat) (l : List Nat) : valD (d :: l) = d * 10 ^ l.length + valD l := by
 have := foldl_val d l
 unfold valD at *
 rw [List.foldl_cons,Nat.zero_mul,Nat.zero_add,this]
theorem valD_lt (l : List Nat) (h : ∀ d ∈ l,d < 10) : valD l < 10 ^ l.length := by
 induction l with
 | nil => simp [valD]
 | cons d l ih =>
   rw [valD_cons,List.length_cons,Nat.pow_succ]
   have h1 := ih (fun x hx => h x (List.mem_cons_of_mem _ hx))
   have h2 := h d List.mem_cons_self
   have h3 : d * 10 ^ l.length ≤ 9 * 10 ^ l.length := Nat.mul_le_mul_right _ (by omega)
   omega
theorem cmpEq_val : ∀ (a b : List Nat),a.length = b.length → (∀ d ∈ a,d < 10) → (∀ d ∈ b,d < 10) → cmpEq a b = cmpN (valD a) (valD b)
 | [],[],_,_,_ => by rw [cmpN_eq]; rfl
 | x :: a,y :: b,hl,ha,hb => by
   have hl' : a.length = b.length := by simpa using hl
   have ih := cmpEq_val a b hl' (fun d h => ha d (List.mem_cons_of_mem _ h)) (fun d h => hb d (List.mem_cons_of_mem _ h))
   have h1 := valD_lt a (fun d h => ha d (List.mem_cons_of_mem _ h))
   have h2 := valD_lt b (fun d h => hb d (List.mem_cons_of_mem _ h))
   rw [valD_cons,valD_cons,hl',cmpEq]
   rw [hl'] at h1
   by_cases h3 : x < y
   ·rw [if_pos h3]
    have h4 : (x + 1) * 10 ^ b.length ≤ y * 10 ^ b.length := Nat.mul_le_mul_right _ h3
    rw [Nat.add_mul,Nat.one_mul] at h4
    exact (cmpN_lt (by omega)).symm
   ·rw [if_neg h3]
    by_cases h4 : y < x
    ·rw [if_pos h4]
     have h5 : (y + 1) * 10 ^ b.length ≤ x * 10 ^ b.length := Nat.mul_le_mul_right _ h4
     rw [Nat.add_mul,Nat.one_mul] at h5
     exact (cmpN_gt (by omega)).symm
    ·rw [if_neg h4,ih]
     obtain rfl : x = y := by omega
     unfold cmpN
     congr 1
     ·simp
     ·congr 1
      simp
theorem digs_mono_len {A B : Nat} (h : (digs A).length < (digs B).length) : A < B := by
 have h1 := valD_lt (digs A) (digs_lt A)
 rw [valD_digs] at h1
 have hB : 0 < B := by
  by_cases h0 : B = 0
  ·subst h0; rw [digs_zero] at h; simp at h
  ·omega
 have h2 := digs_low hB
 have h3 : 10 ^ (digs A).length ≤ 10 ^ ((digs B).length - 1) := Nat.pow_le_pow_right (by omega) (by omega)
 omega
theorem cmpDg_digs (A B : Nat) : cmpDg (digs A) (digs B) = cmpN A B := by
 unfold cmpDg
 by_cases h : (digs A).length = (digs B).length
 ·rw [if_pos h,cmpEq_val _ _ h (digs_lt A) (digs_lt B),valD_digs,valD_digs]
 ·rw [if_neg h]
  by_cases h1 : (digs A).length < (digs B).length
  ·rw [if_pos h1,cmpN_lt (digs_mono_len h1)]
  ·rw [if_neg h1,cmpN_gt (digs_mono_len (by omega))]
def DigV (v : Value) (l : List Nat) (w : World) : Prop := (l = [] ∧ v = .slice none 0 0) ∨ ∃ b o c,v = .slice (some ⟨b,o,none⟩) l.length c ∧ l.length ≤ c ∧ b < w.heap.size ∧ ∀ i (h : i < l.length),w.cell? ⟨b,o + i,none⟩ = some (.int .u8 (l[i] : Int))
theorem DigV.ext {v : Value} {l : List Nat} {w w' : World} (h : DigV v l w) (x : Ext w w') : DigV v l w' := by
 rcases h with h | ⟨b,o,c,h1,h2,h3,h4⟩
 ·exact .inl h
 ·exact .inr ⟨b,o,c,h1,h2,Nat.lt_of_lt_of_le h3 x.size,fun i hi => (x.cell (p := ⟨b,o + i,none⟩) h3).trans (h4 i hi)⟩
theorem DigV.form {v : Value} {l : List Nat} {w : World} (h : DigV v l w) : ∃ p c,v = .slice p l.length c := by
 rcases h with ⟨rfl,h⟩ | ⟨b,o,c,h1,_⟩
 ·exact ⟨none,0,h⟩
 ·exact ⟨_,c,h1⟩
def digC (l : List Nat) : List Value := l.map (fun d : Nat => Value.int .u8 (d : Int))
theorem infoByte : (Tryz.prog.info? 5).map (fun i => (i.zero,i.size,i.bytes)) = some (some (.int .u8 0),1,1) := by kernel_rfl
theorem DigV.src {v : Value} {l : List Nat} {w : World} (h : DigV v l w) : Src Tryz.prog 1 116 v l.length (digC l) w := by
 rcases h with ⟨rfl,rfl⟩ | ⟨b,o,c,rfl,h2,h3,h4⟩
 ·exact Src.ofNil w Tryz.underlying116 0
 ·refine Src.ofSlice w Tryz.underlying116 ⟨b,o,none⟩ l.length c (digC l) (by unfold digC; simp) ?_ ?_
  ·intro j u hu
   unfold digC at hu
   rw [List.getElem?_map] at hu
   obtain ⟨d,hd,rfl⟩ := Option.map_eq_some_iff.1 hu
   obtain ⟨hj,hd2⟩ := List.getElem?_eq_some_iff.1 hd
   rw [Addr.add_lit,h4 j hj,hd2]
  ·intro u hu
   unfold digC at hu
   obtain ⟨d,_,rfl⟩ := List.mem_map.1 hu
   rfl
theorem run_append_dig (w : World) (g d : Nat) (v : Value) (l : List Nat) (hg : w.cell? ⟨g,0,none⟩ = some (.int .u8 (d : Int))) (hl : DigV v l w) (hlen : l.length < 100000) (ty : TypeId) :
  ∃ v' w',(Builtin.append_ #[116,116] ty #[.slice (some ⟨g,0,none⟩) 1 1,v]).run Tryz.prog w = .ok v' w' ∧ DigV v' (d :: l) w' ∧ Ext w w' := by
 obtain ⟨i,hi,hi3⟩ := Option.map_eq_some_iff.1 infoByte
 obtain ⟨hz,hsz,hby⟩ : i.zero = some (.int .u8 0) ∧ i.size = 1 ∧ i.bytes = 1 := by
  injection hi3 with h1 h2; injection h2 with h2 h3; exact ⟨h1,h2,h3⟩
 have hs := hl.src
 rw [← hsz] at hs
 have hgl : g < w.heap.size := World.block_lt_of_cell? w ⟨g,0,none⟩ hg
 by_cases h0 : l.length = 0
 ·obtain rfl : l = [] := List.eq_nil_of_length_eq_zero h0
  have := run_append_room_src (P := Tryz.prog) w 116 116 ty 5 i Tryz.underlying116 hi g 0 1 1 v 0 [] hs (by omega) (fun j hj => absurd hj (Nat.not_lt_zero j)) (fun j hj => absurd hj (Nat.not_lt_zero j))
  refine ⟨.slice (some ⟨g,0,none⟩) 1 1,w,this,.inr ⟨g,0,1,rfl,Nat.le_refl _,hgl,?_⟩,Ext.refl _⟩
  intro j hj
  obtain rfl : j = 0 := by simp at hj; exact hj
  exact hg
 ·have hold : (Builtin.firstCells i.size 1 (.slice (some ⟨g,0,none⟩) 1 1)).run Tryz.prog w.drew = .ok [Value.int .u8 (d : Int)].toArray w.drew := by
   refine run_firstCells_some w.drew i.size 1 ⟨g,0,none⟩ 1 1 [.int .u8 (d : Int)] (by rw [hsz]; rfl) ?_
   intro j u hu
   have hj : j = 0 := by
    have := (List.getElem?_eq_some_iff.1 hu).1
    simp at this; exact this
   subst hj
   rw [Addr.add_lit]
   simp at hu
   rw [← hu]
   exact hg
  have := run_append_grow_src (P := Tryz.prog) w 116 116 ty 5 i (.int .u8 0) Tryz.underlying116 hi hz (some ⟨g,0,none⟩) 1 1 [.int .u8 (d : Int)] hold v l.length (digC l) hs (by omega) (by omega) (by rw [hby]; exact growslice_fits (by omega) (by omega))
  refine ⟨_,_,this,.inr ⟨w.heap.size,0,grownCap w (1 + l.length) 1 5,by rw [show (d :: l).length = 1 + l.length from by simp; omega],?_,?_,?_⟩,?_⟩
  ·have := grownCap_ge w (1 + l.length) 1 5
   simp only [List.length_cons]; omega
  ·exact (by rw [heap_size_alloc]; exact Nat.lt_succ_self _)
  ·intro j hj
   have hh := heap_last w.drew (.cells (([Value.int .u8 (d : Int)] ++ digC l).toArray ++ Builtin.zeroCells (Value.int .u8 0).cells (grownCap w (1 + l.length) 1 5 - (1 + l.length))) 5)
   refine (Lib.cell_of_heap hh _).trans ?_
   rw [Nat.zero_add,Array.getElem?_append_left (by simp [digC]; simpa using hj)]
   cases j with
   | zero => simp
   | succ j =>
     have hj2 : j < l.length := by simpa using hj
     simp [digC]
     exact ⟨l[j],List.getElem?_eq_getElem hj2,rfl⟩
  ·exact (Ext.refl w).drew.alloc _
theorem wpList_append_dig {ops : Array Oper} {rest : List Oper} {o : Oper} {a : Act} {Q : Exit → Act → World → Prop} (w : World) (hgd : o.guard = none) (sl x : Operand)
  (ho : o.op = .call { callee := .builtin .append,args := #[sl,x],argTypes := #[116,116] })
  (g d : Nat) (v : Value) (l : List Nat) (hs : a.eval sl = .slice (some ⟨g,0,none⟩) 1 1) (hx : a.eval x = v) (hg : w.cell? ⟨g,0,none⟩ = some (.int .u8 (d : Int))) (hl : DigV v l w) (hlen : l.length < 100000)
  (h : ∀ v' w',DigV v' (d :: l) w' → Ext w w' → wpList Tryz.prog ops Q rest (a.put o.dst v') w') :
  wpList Tryz.prog ops Q (o :: rest) a w := by
 refine wpList_plain hgd fun K hK => ?_
 obtain ⟨v',w',hr,h2,h3⟩ := run_append_dig w g d v l hg hl hlen o.type
 unfold Oper.wp execOp
 simp only [ho,resolve,invoke,builtin,Sem.run_bind,Sem.run_pure,Result.andThen_ok,List.map_toArray,List.map_cons,List.map_nil,hs,hx,hr]
 exact hK _ _ (h v' w' h2 h3)
theorem digits_bound {N N' k : Nat} (h : N' * 10 ^ k ≤ N) (h0 : 0 < N') (hN : N < 18446744073709551616) : k < 20 := by
 have h1 : 10 ^ k ≤ N := Nat.le_trans (Nat.le_mul_of_pos_left _ h0) h
 have h2 : 10 ^ k < 10 ^ 20 := by
  have : (18446744073709551616 : Nat) < 10 ^ 20 := by decide
  omega
 exact (Nat.pow_lt_pow_iff_right (by omega)).1 h2
theorem digits_any (N : Nat) (w : World) (hN : N < W64) :
  Calls Tryz.prog 122 #[.int .u64 N] w fun e w' => (∃ v,e = .returned v ∧ DigV v (digs N) w') ∧ Ext w w' := by
 unfold W64 at hN
 go_enter Tryz.func122,Tryz.ntmps122
 go_wp2_with fail
 go_loopw [0,3] (fun n v wr => ∃ (N' : Nat) (l : List Nat),n = .int .u64 N' ∧ N' ≤ N ∧ DigV v l wr ∧ Hid (digs N = digs N' ++ l) ∧ Hid (N' * 10 ^ l.length ≤ N) ∧ l.length < 21 ∧ Ext w wr) (fun n _ _ => (intOf n).toNat)
 case atStart => exact ⟨N,[],rfl,Nat.le_refl _,.inl ⟨rfl,rfl⟩,Lib.hid (by simp),Lib.hid (by simp),by simp,Ext.refl _⟩
 case round =>
  obtain ⟨N',l,rfl,hle,hv,hd,hb,hl,hx⟩ := hrel
  obtain ⟨p,c,hform⟩ := hv.form
  by_cases h0 : 0 < N'
  ·have hl2 := digits_bound hb.out h0 hN
   have hd2 : Hid (digs N = digs (N' / 10) ++ ((N' % 10) :: l)) := Lib.hid (by rw [hd.out,digs_pos h0]; simp)
   have hb2 : Hid (N' / 10 * 10 ^ ((N' % 10) :: l).length ≤ N) := Lib.hid (by
    rw [List.length_cons,Nat.pow_succ,Nat.mul_comm (10 ^ l.length),← Nat.mul_assoc]
    exact Nat.le_trans (Nat.mul_le_mul_right _ (by omega)) hb.out)
   have hm : IntKind.u8.wrap ((N' : Int) % 10) = ((N' % 10 : Nat) : Int) := by rw [IntKind.wrap_u8]; omega
   clear hd hb
   go_wp2_with (at_builtin; refine wpList_append_dig _ rfl _ _ rfl wr.heap.size (N' % 10) _ l rfl rfl ?c1 ?c2 ?c3 ?_)
   case c1 =>
    refine (Lib.cell_of_heap (heap_last _ _) _).trans ?_
    rfl
   case c2 => exact hv.ext ((Ext.refl _).alloc _)
   case c3 => omega
   intro v' w2 hv' x2
   go_wp2_with fail
   go_roundw
   case rel => exact ⟨N' / 10,(N' % 10) :: l,rfl,by omega,hv',hd2,hb2,by simp only [List.length_cons]; omega,(hx.alloc _).trans x2⟩
   case measure => simp only [intOf]; omega
  ·obtain rfl : N' = 0 := by omega
   have hd' := hd.out
   rw [digs_zero,List.nil_append] at hd'
   have HD := Lib.hid hd'
   clear hd hd' hb
   go_wp2_with fail
   go_ret
   exact ⟨⟨_,rfl,by rw [HD.out]; exact hv⟩,hx⟩
theorem amount_any (m : Int) (w : World) (hm : I64 m) :
  Calls Tryz.prog 95 #[.int .i64 m] w fun e w' => (∃ v,e = .returned v ∧ DigV v (digs m.natAbs) w') ∧ Ext w w' := by
 obtain ⟨h1,h2⟩ := hm
 have C := fun w => digits_any m.natAbs w (by unfold W64; omega)
 by_cases h0 : m < 0
 ·have e1 : (m.natAbs : Int) = -(m + 1) + 1 := by omega
  rw [e1] at C
  go_enter Tryz.func95,Tryz.ntmps95
  go_wp2_with fail
  refine (C _).mono ?_
  rintro e w1 ⟨⟨v,rfl,hv⟩,x1⟩
  go_wp2_with fail
  go_ret
  exact ⟨⟨_,rfl,hv⟩,x1⟩
 ·have e1 : (m.natAbs : Int) = m := by omega
  rw [e1] at C
  go_enter Tryz.func95,Tryz.ntmps95
  go_wp2_with fail
  refine (C _).mono ?_
  rintro e w1 ⟨⟨v,rfl,hv⟩,x1⟩
  go_wp2_with fail
  go_ret
  exact ⟨⟨_,rfl,hv⟩,x1⟩
theorem DigV.pos {v : Value} {l : List Nat} {w : World} (h : DigV v l w) (hn : 0 < l.length) : ∃ b o c,v = .slice (some ⟨b,o,none⟩) l.length c ∧ l.length ≤ c ∧ b < w.heap.size ∧ ∀ i (h : i < l.length),w.cell? ⟨b,o + i,none⟩ = some (.int .u8 (l[i] : Int)) := by
 rcases h with ⟨rfl,_⟩ | h
 ·simp at hn
 ·exact h
theorem dcompare_any (v u : Value) (l m : List Nat) (w : World) (hv : DigV v l w) (hu : DigV u m w) (hl : l.length < 100000) (hm : m.length < 100000) :
  Calls Tryz.prog 96 #[v,u] w fun e w' => e = .returned (.int .i64 (cmpDg l m)) ∧ Ext w w' := by
 obtain ⟨p,c,rfl⟩ := hv.form
 obtain ⟨q,c',rfl⟩ := hu.form
 by_cases hlen : l.length = m.length
 ·have hc : Hid (cmpDg l m = cmpEq l m) := Lib.hid (by unfold cmpDg; rw [if_pos hlen])
  have nb : ((l.length : Int) != (m.length : Int)) = false := by simp; omega
  rw [hc.out]
  rw [← hlen] at hu ⊢
  clear nb
  have HL := Lib.hid hlen
  clear hlen
  go_enter Tryz.func96,Tryz.ntmps96
  go_wp2_with fail
  go_loopw [5] (fun i wr => ∃ i' : Nat,i = .int .i64 i' ∧ i' ≤ l.length ∧ Hid (cmpEq (l.drop i') (m.drop i') = cmpEq l m) ∧ Ext w wr) (fun i _ => l.length - (intOf i).toNat)
  case atStart => exact ⟨0,rfl,Nat.zero_le _,rfl,Ext.refl _⟩
  case round =>
   obtain ⟨i',rfl,hi,hcm,hx⟩ := hrel
   by_cases hlt : i' < l.length
   ·have hlt2 : i' < m.length := by rw [← HL.out]; exact hlt
    obtain ⟨b,o,_,hp,_,hb,hcell⟩ := hv.pos (by omega)
    injection hp with hp _ hp3
    subst hp hp3
    have hu3 : DigV (.slice q m.length c') m w := by rw [← HL.out]; exact hu
    obtain ⟨b',o',_,hq,_,hb',hcell'⟩ := hu3.pos (by omega)
    injection hq with hq _ hq3
    subst hq hq3
    clear hu3
    have c0 := (hx.cell (p := ⟨b,o + i',none⟩) hb).trans (hcell i' hlt)
    have d0 := (hx.cell (p := ⟨b',o' + i',none⟩) hb').trans (hcell' i' hlt2)
    have hcm2 := hcm.out
    rw [List.drop_eq_getElem_cons hlt,List.drop_eq_getElem_cons hlt2,cmpEq] at hcm2
    generalize l[i'] = x at *
    generalize m[i'] = y at *
    clear hcell hcell' hcm hlt2
    by_cases h1 : x < y
    ·rw [if_pos h1] at hcm2
     have HC := Lib.hid hcm2
     clear hcm2
     go_wp2_with fail
     go_quiet (fail)
     go_wp2_with fail
     go_ret
     exact ⟨retI HC.out,hx.drewN _⟩
    ·rw [if_neg h1] at hcm2
     by_cases h2 : y < x
     ·rw [if_pos h2] at hcm2
      have HC := Lib.hid hcm2
      clear hcm2
      go_wp2_with fail
      go_quiet (fail)
      go_wp2_with fail
      go_quiet (fail)
      go_wp2_with fail
      go_ret
      exact ⟨retI HC.out,(hx.drewN _).drewN _⟩
     ·rw [if_neg h2] at hcm2
      have HC := Lib.hid hcm2
      clear hcm2
      go_wp2_with fail
      go_quiet (fail)
      go_wp2_with fail
      go_quiet (fail)
      go_wp2_with fail
      go_roundw
      case rel => exact ⟨i' + 1,rfl,hlt,HC,hx.drewN _⟩
      case measure => simp only [intOf]; omega
   ·obtain rfl : i' = l.length := by omega
    have hcm2 := hcm.out
    rw [List.drop_length,HL.out,List.drop_length] at hcm2
    have HC : Hid (0 = cmpEq l m) := Lib.hid hcm2
    clear hcm hcm2
    go_wp2_with fail
    go_ret
    exact ⟨retI HC.out,hx⟩
 ·by_cases hlt : l.length < m.length
  ·have hc : Hid (cmpDg l m = -1) := Lib.hid (by unfold cmpDg; rw [if_neg hlen,if_pos hlt])
   go_enter Tryz.func96,Tryz.ntmps96
   go_wp2_with fail
   go_ret
   exact ⟨retI hc.out.symm,Ext.refl _⟩
  ·have hc : Hid (cmpDg l m = 1) := Lib.hid (by unfold cmpDg; rw [if_neg hlen,if_neg hlt])
   go_enter Tryz.func96,Tryz.ntmps96
   go_wp2_with fail
   go_ret
   exact ⟨retI hc.out.symm,Ext.refl _⟩
def canZ (z : Int) (s : Nat) : (Int × Int) × Bool := ((decMv (decide (z < 0)) z.natAbs s,decSv z.natAbs s),decOk z.natAbs s)
theorem strip_up (N s : Nat) : strip (N * 10) (s + 1) = strip N s := by
 rw [strip,if_pos (by omega)]
 congr 1; omega
theorem strip_ups (N s k : Nat) : strip (N * 10 ^ k) (s + k) = strip N s := by
 induction k with
 | zero => rw [Nat.pow_zero,Nat.mul_one,Nat.add_zero]
 | succ k ih => rw [Nat.pow_succ,← Nat.mul_assoc,← Nat.add_assoc,strip_up,ih]
theorem canZ_ups (z : Int) (s k : Nat) : canZ (z * 10 ^ k) (s + k) = canZ z s := by
 have h1 : (z * 10 ^ k).natAbs = z.natAbs * 10 ^ k := by rw [Int.natAbs_mul,Int.natAbs_pow]; rfl
 have hp : (0 : Int) < 10 ^ k := Int.pow_pos (by omega)
 have h2 : decide (z * 10 ^ k < 0) = decide (z < 0) := by
  apply decide_eq_decide.2
  constructor
  ·intro h
   by_cases h0 : 0 ≤ z
   ·exact absurd (Int.mul_nonneg h0 (Int.le_of_lt hp)) (by omega)
   ·omega
  ·intro h; exact Int.mul_neg_of_neg_of_pos h hp
 unfold canZ decMv decSv decOk
 rw [h1,h2,strip_ups]
theorem canZ_eq {z1 z2 : Int} {s1 s2 : Nat} (h : z1 * 10 ^ s2 = z2 * 10 ^ s1) : canZ z1 s1 = canZ z2 s2 := by
 rw [← canZ_ups z1 s1 s2,h,Nat.add_comm,canZ_ups]
theorem canZ_neg (n : Bool) (z : Int) (s : Nat) (h : z ≠ 0 → n = decide (z < 0)) : decMv n z.natAbs s = decMv (decide (z < 0)) z.natAbs s := by
 by_cases h0 : z = 0
 ·subst h0
  unfold decMv
  rw [show (0 : Int).natAbs = 0 from rfl,strip_zero]
  cases n <;> rfl
 ·rw [h h0]
def v18 (M S : Int) : Int := M * 10 ^ (18 - S).toNat
def sg (z : Int) : Int := if z < 0 then -1 else if 0 < z then 1 else 0
theorem pow_pos10 (k : Nat) : (0 : Int) < 10 ^ k := Int.pow_pos (by omega)
theorem natAbs_mul10 (m : Int) (k : Nat) : (m * 10 ^ k).natAbs = m.natAbs * 10 ^ k := by rw [Int.natAbs_mul,Int.natAbs_pow]; rfl
theorem neg_mul10 (m : Int) (k : Nat) : decide (m * 10 ^ k < 0) = decide (m < 0) := by
 have hp := pow_pos10 k
 apply decide_eq_decide.2
 constructor
 ·intro h
  by_cases h0 : 0 ≤ m
  ·exact absurd (Int.mul_nonneg h0 (Int.le_of_lt hp)) (by omega)
  ·omega
 ·intro h; exact Int.mul_neg_of_neg_of_pos h hp
theorem sg_mul10 (z : Int) (k : Nat) : sg (z * 10 ^ k) = sg z := by
 have hp := pow_pos10 k
 unfold sg
 by_cases h : z < 0
 ·rw [if_pos h,if_pos (Int.mul_neg_of_neg_of_pos h hp)]
 ·by_cases h0 : 0 < z
  ·have := Int.mul_pos h0 hp
   rw [if_neg h,if_pos h0,if_neg (by omega),if_pos this]
  ·obtain rfl : z = 0 := by omega
   rw [Int.zero_mul]
theorem scN_abs (M S s : Int) : scN M S s = (M * 10 ^ (s - S).toNat).natAbs := by rw [natAbs_mul10]; rfl
theorem nplus_int (a b : Int) : nplusN (decide (a < 0)) a.natAbs (decide (b < 0)) b.natAbs = (a + b).natAbs ∧ (a + b ≠ 0 → nplusS (decide (a < 0)) a.natAbs (decide (b < 0)) b.natAbs = decide (a + b < 0)) := by
 have tf : ¬(true = false) := by decide
 have ft : ¬(false = true) := by decide
 unfold nplusN nplusS
 by_cases ha : a < 0 <;> by_cases hb : b < 0
 ·rw [decide_eq_true ha,decide_eq_true hb,if_pos rfl,if_pos rfl]
  exact ⟨by omega,fun _ => (decide_eq_true (by omega)).symm⟩
 ·rw [decide_eq_true ha,decide_eq_false hb,if_neg tf,if_neg tf]
  by_cases h : b.natAbs ≤ a.natAbs
  ·rw [if_pos h,if_pos h]; exact ⟨by omega,fun h0 => (decide_eq_true (by omega)).symm⟩
  ·rw [if_neg h,if_neg h]; exact ⟨by omega,fun h0 => (decide_eq_false (by omega)).symm⟩
 ·rw [decide_eq_false ha,decide_eq_true hb,if_neg ft,if_neg ft]
  by_cases h : b.natAbs ≤ a.natAbs
  ·rw [if_pos h,if_pos h]; exact ⟨by omega,fun h0 => (decide_eq_false (by omega)).symm⟩
  ·rw [if_neg h,if_neg h]; exact ⟨by omega,fun h0 => (decide_eq_true (by omega)).symm⟩
 ·rw [decide_eq_false ha,decide_eq_false hb,if_pos rfl,if_pos rfl]
  exact ⟨by omega,fun _ => (decide_eq_false (by omega)).symm⟩
theorem ncmp_int (a b : Int) : ncmp (decide (a < 0)) a.natAbs (decide (b < 0)) b.natAbs = sg (a - b) := by
 unfold ncmp sg cmpN
 by_cases ha : a < 0 <;> by_cases hb : b < 0
 ·rw [decide_eq_true ha,decide_eq_true hb,if_pos rfl,if_pos rfl]
  by_cases h : b.natAbs < a.natAbs
  ·rw [if_pos h,if_pos (by omega)]
  ·rw [if_neg h]
   by_cases h2 : b.natAbs > a.natAbs
   ·rw [if_pos h2,if_neg (by omega),if_pos (by omega)]
   ·rw [if_neg h2,if_neg (by omega),if_neg (by omega)]
 ·rw [decide_eq_true ha,decide_eq_false hb,if_pos rfl,if_neg (by decide),if_pos (by omega)]
 ·rw [decide_eq_false ha,decide_eq_true hb,if_neg (by decide),if_pos rfl,if_neg (by omega),if_pos (by omega)]
 ·rw [decide_eq_false ha,decide_eq_false hb,if_neg (by decide),if_neg (by decide)]
  by_cases h : a.natAbs < b.natAbs
  ·rw [if_pos h,if_pos (by omega)]
  ·rw [if_neg h]
   by_cases h2 : a.natAbs > b.natAbs
   ·rw [if_pos h2,if_neg (by omega),if_pos (by omega)]
   ·rw [if_neg h2,if_neg (by omega),if_neg (by omega)]
theorem to18 (m S : Int) (s : Nat) (h0 : S ≤ s) (h1 : S ≤ 18) : m * 10 ^ ((s : Int) - S).toNat * 10 ^ 18 = v18 m S * 10 ^ s := by
 unfold v18
 rw [Int.mul_assoc,← Int.pow_add,Int.mul_assoc,← Int.pow_add]
 congr 2; omega
theorem add_is (m1 s1 m2 s2 : Int) (h1 : 0 ≤ s1 ∧ s1 ≤ 18) (h2 : 0 ≤ s2 ∧ s2 ≤ 18) : ((addM m1 s1 m2 s2,addS m1 s1 m2 s2),addOk m1 s1 m2 s2) = canZ (v18 m1 s1 + v18 m2 s2) 18 := by
 obtain ⟨s,hs⟩ : ∃ s : Nat,max s1 s2 = (s : Int) := ⟨(max s1 s2).toNat,by omega⟩
 have e : canZ (v18 m1 s1 + v18 m2 s2) 18 = canZ (m1 * 10 ^ ((s : Int) - s1).toNat + m2 * 10 ^ ((s : Int) - s2).toNat) s := by
  apply canZ_eq
  rw [Int.add_mul,Int.add_mul,← to18 m1 s1 s (by omega) h1.2,← to18 m2 s2 s (by omega) h2.2]
 rw [e]
 have hn : addN m1 s1 m2 s2 = (m1 * 10 ^ ((s : Int) - s1).toNat + m2 * 10 ^ ((s : Int) - s2).toNat).natAbs := by
  unfold addN
  rw [hs,scN_abs,scN_abs,← neg_mul10 m1 ((s : Int) - s1).toNat,← neg_mul10 m2 ((s : Int) - s2).toNat]
  exact (nplus_int _ _).1
 have hb : m1 * 10 ^ ((s : Int) - s1).toNat + m2 * 10 ^ ((s : Int) - s2).toNat ≠ 0 → addB m1 s1 m2 s2 = decide (m1 * 10 ^ ((s : Int) - s1).toNat + m2 * 10 ^ ((s : Int) - s2).toNat < 0) := by
  unfold addB
  rw [hs,scN_abs,scN_abs,← neg_mul10 m1 ((s : Int) - s1).toNat,← neg_mul10 m2 ((s : Int) - s2).toNat]
  exact (nplus_int _ _).2
 unfold addM addS addOk
 rw [hn,hs,Int.toNat_natCast]
 unfold canZ
 rw [canZ_neg _ _ _ hb]
theorem cmp_is (m1 s1 m2 s2 : Int) (h1 : 0 ≤ s1 ∧ s1 ≤ 18) (h2 : 0 ≤ s2 ∧ s2 ≤ 18) : cmpD m1 s1 m2 s2 = sg (v18 m1 s1 - v18 m2 s2) := by
 obtain ⟨s,hs⟩ : ∃ s : Nat,max s1 s2 = (s : Int) := ⟨(max s1 s2).toNat,by omega⟩
 unfold cmpD
 rw [hs,scN_abs,scN_abs,← neg_mul10 m1 ((s : Int) - s1).toNat,← neg_mul10 m2 ((s : Int) - s2).toNat,ncmp_int]
 rw [← sg_mul10 _ 18,← sg_mul10 (v18 m1 s1 - v18 m2 s2) s,Int.sub_mul,Int.sub_mul,to18 m1 s1 s (by omega) h1.2,to18 m2 s2 s (by omega) h2.2]
def absN (M S : Int) : Nat := M.natAbs * 10 ^ (18 - S).toNat
theorem absN_is (M S : Int) : (v18 M S).natAbs = absN M S ∧ (M < 0 ↔ v18 M S < 0) ∧ (0 ≤ M ↔ 0 ≤ v18 M S) := by
 have hp : (0 : Int) < 10 ^ (18 - S).toNat := Int.pow_pos (by omega)
 unfold v18 absN
 refine ⟨?_,?_,?_⟩
 ·rw [Int.natAbs_mul,Int.natAbs_pow]; rfl
 ·constructor
  ·intro h; exact Int.mul_neg_of_neg_of_pos h hp
  ·intro h
   rcases Int.lt_or_le M 0 with h1 | h1
   ·exact h1
   ·have := Int.mul_nonneg h1 (Int.le_of_lt hp); omega
 ·constructor
  ·intro h; exact Int.mul_nonneg h (Int.le_of_lt hp)
  ·intro h
   rcases Int.lt_or_le M 0 with h1 | h1
   ·have := Int.mul_neg_of_neg_of_pos h1 hp; omega
   ·exact h1
def rcV (M1 S1 M2 S2 : Int) : Int := if M1 < 0 ∧ M2 < 0 then cmpN (absN M2 S2) (absN M1 S1) else if M1 < 0 then -1 else if M2 < 0 then 1 else cmpN (absN M1 S1) (absN M2 S2)
theorem rcV_is (M1 S1 M2 S2 : Int) (h1 : 0 ≤ S1 ∧ S1 ≤ 18) (h2 : 0 ≤ S2 ∧ S2 ≤ 18) : cmpD M1 S1 M2 S2 = rcV M1 S1 M2 S2 := by
 rw [cmp_is M1 S1 M2 S2 h1 h2]
 obtain ⟨x1,x2,x3⟩ := absN_is M1 S1
 obtain ⟨y1,y2,y3⟩ := absN_is M2 S2
 unfold rcV sg cmpN
 split <;> split <;> (repeat' split) <;> omega
theorem RGood_any (M S : Int) (w : World) (hM : I64 M) (hS : I64 S) :
  Calls Tryz.prog 93 #[decV M S] w fun e w' => e = .returned (.bool (goodB M S)) ∧ Ext w w' := by
 unfold decV
 obtain ⟨hM1,hM2⟩ := hM
 obtain ⟨hS1,hS2⟩ := hS
 by_cases h0 : 0 ≤ S
 ·by_cases h1 : S ≤ 18
  ·by_cases h2 : M = -9223372036854775808
   ·have hb : goodB M S = false := by unfold goodB; simp [h2]
    have H := Lib.hid hb
    have n2 : binOp .neq 2 (.int .i64 M) (.int .i64 (-9223372036854775808)) = pure (.bool false) := by
     rw [h2]; rfl
    clear h2 hb
    go_enter Tryz.func93,Tryz.ntmps93
    go_wp2_with fail
    go_ret
    exact ⟨retB H.out.symm,(Ext.refl _).alloc _⟩
   ·have n2 : binOp .neq 2 (.int .i64 M) (.int .i64 (-9223372036854775808)) = pure (.bool true) := by
     simp only [go_sem]; rw [show (M != -9223372036854775808) = true from by simpa using h2]
    by_cases h3 : S = 0
    ·have hb : goodB M S = true := by unfold goodB; exact decide_eq_true ⟨h0,h1,h2,.inl h3⟩
     have H := Lib.hid hb
     clear h2 hb
     subst h3
     go_enter Tryz.func93,Tryz.ntmps93
     go_wp2_with fail
     go_ret
     exact ⟨retB H.out.symm,(Ext.refl _).alloc _⟩
    ·by_cases h4 : M.tmod 10 = 0
     ·have hb : goodB M S = false := by unfold goodB; simp [h3,h4]
      have H := Lib.hid hb
      clear h2 hb
      go_enter Tryz.func93,Tryz.ntmps93
      go_wp2_with fail
      go_ret
      exact ⟨retB (by rw [H.out]; simpa using h3),(Ext.refl _).alloc _⟩
     ·have hb : goodB M S = true := by unfold goodB; exact decide_eq_true ⟨h0,h1,h2,.inr h4⟩
      have H := Lib.hid hb
      clear h2 hb
      go_enter Tryz.func93,Tryz.ntmps93
      go_wp2_with fail
      go_ret
      exact ⟨retB (by rw [H.out]; simp [h4]),(Ext.refl _).alloc _⟩
  ·have hb : goodB M S = false := by unfold goodB; simp [h1]
   have H := Lib.hid hb
   clear hb
   go_enter Tryz.func93,Tryz.ntmps93
   go_wp2_with fail
   go_ret
   exact ⟨retB H.out.symm,(Ext.refl _).alloc _⟩
 ·have hb : goodB M S = false := by unfold goodB; simp [h0]
  have H := Lib.hid hb
  clear hb
  go_enter Tryz.func93,Tryz.ntmps93
  go_wp2_with fail
  go_ret
  exact ⟨retB H.out.symm,(Ext.refl _).alloc _⟩
theorem zero_cells (k : Nat) : Builtin.zeroCells (Value.int .u8 0).cells k = (List.replicate k (Value.int .u8 0)).toArray := by
 apply Array.ext
 ·simp [Builtin.zeroCells,Value.cells]
 ·intro i h1 h2
  simp [Builtin.zeroCells,Value.cells,Nat.mod_one]
theorem run_zeros_room (w : World) (ty : TypeId) (g n cap k : Nat) (cur : Array Value) (hg : w.heap[g]? = some (.cells cur 5 (0,0))) (hroom : n + k ≤ cap) (hfit : n + k ≤ cur.size) (hk : k < 100000) :
  (Builtin.append_ #[116,3] ty #[.slice (some ⟨g,0,none⟩) n cap,.int .i64 k]).run Tryz.prog w =
    .ok (.slice (some ⟨g,0,none⟩) (n + k) cap) (w.setRow g (cur.toList.take n ++ List.replicate k (Value.int .u8 0) ++ cur.toList.drop (n + k)).toArray) := by
 obtain ⟨i,hi,hi3⟩ := Option.map_eq_some_iff.1 infoByte
 obtain ⟨hz,hsz,hby⟩ : i.zero = some (.int .u8 0) ∧ i.size = 1 ∧ i.bytes = 1 := by
  injection hi3 with h1 h2; injection h2 with h2 h3; exact ⟨h1,h2,h3⟩
 have hst := run_storeCells_at Tryz.prog g n 5 (List.replicate k (.int .u8 0)) 0 cur w hg (by simpa using hfit) (by
  intro v hv
  rw [List.eq_of_mem_replicate hv]; rfl)
 simp only [Nat.add_zero,List.length_replicate] at hst
 have hw : IntKind.i64.wrap (k : Int) = k := by rw [IntKind.wrap_i64]; omega
 have hneg : ¬ ((k : Int) < 0) := by omega
 have h48i : ¬ (281474976710656 < (k : Int) * (i.bytes : Int)) := by rw [hby]; omega
 by_cases h0 : k = 0
 ·subst h0
  simp at hst
  have hw0 : IntKind.i64.wrap 0 = 0 := by rw [IntKind.wrap_i64]; rfl
  simp at hroom
  simp [Builtin.append_,run_underlying Tryz.underlying116,run_underlying Tryz.underlying3,sizeOf,typeInfo,hi,hsz,asInt,asIntOf,Addr.add_lit,hst,hw0,hroom]
 ·simp [Builtin.append_,run_underlying Tryz.underlying116,run_underlying Tryz.underlying3,sizeOf,typeInfo,hi,hz,hsz,zeroValue,asInt,asIntOf,hw,hneg,h48i,hroom,h0,Addr.add_lit,zero_cells,hst]
def OwnD (base : Nat) (v : Value) (l : List Nat) (w : World) : Prop := w.ownsRow base 5 1 v l.length (digC l)
theorem OwnD.dig {base : Nat} {v : Value} {l : List Nat} {w : World} (h : OwnD base v l w) : DigV v l w := by
 obtain ⟨_,h⟩ := h
 rcases h with ⟨rfl,h0⟩ | ⟨g,cap,cur,rfl,hb,hg,hn,_,hc,ht⟩
 ·exact .inl ⟨List.eq_nil_of_length_eq_zero h0,rfl⟩
 ·refine .inr ⟨g,0,cap,rfl,hn,(Array.getElem?_eq_some_iff.1 hg).1,fun i hi => ?_⟩
  rw [Lib.cell_of_heap hg,Nat.zero_add]
  have h1 : (cur.toList.take (l.length * 1))[i]? = (digC l)[i]? := by rw [ht]
  rw [List.getElem?_take_of_lt (by omega)] at h1
  have h2 : cur[i]? = cur.toList[i]? := by simp
  rw [h2,h1]
  simp [digC,List.getElem?_eq_getElem hi]
theorem run_zeros_own (w : World) (ty : TypeId) (base k : Nat) (v : Value) (l : List Nat) (h : OwnD base v l w) (h0 : 0 < l.length) (hk : k < 100000) (hl : l.length < 100000) (hb : base ≤ w.heap.size) :
  ∃ v' w',(Builtin.append_ #[116,3] ty #[v,.int .i64 k]).run Tryz.prog w = .ok v' w' ∧ OwnD base v' (l ++ List.replicate k 0) w' ∧ w.grownBy w' v.ownBlock := by
 obtain ⟨i,hi,hi3⟩ := Option.map_eq_some_iff.1 infoByte
 obtain ⟨hz,hsz,hby⟩ : i.zero = some (.int .u8 0) ∧ i.size = 1 ∧ i.bytes = 1 := by
  injection hi3 with h1 h2; injection h2 with h2 h3; exact ⟨h1,h2,h3⟩
 have hC : digC (l ++ List.replicate k 0) = digC l ++ List.replicate k (.int .u8 0) := by simp [digC]
 have hL : (digC (l ++ List.replicate k 0)).length = (l ++ List.replicate k 0).length * 1 := by simp [digC]
 have hN : (l ++ List.replicate k 0).length = l.length + k := by simp
 obtain ⟨hlen,hown⟩ := h
 rcases hown with ⟨_,h1⟩ | ⟨g,cap,cur,rfl,hbg,hg,hnc,hcm,hcs,htake⟩
 ·omega
 ·by_cases hroom : l.length + k ≤ cap
  ·refine ⟨_,_,run_zeros_room w ty g l.length cap k cur hg hroom (by omega) hk,⟨hL,.inr ⟨g,cap,_,by rw [hN],hbg,setRow_heap w g cur _ 5 _ hg,by omega,hcm,?_,?_⟩⟩,⟨rfl,rfl,rfl,by simp,fun j _ hj => setRow_other w g j _ (fun e => hj (by simp [Value.ownBlock,e]))⟩⟩
   ·simp only [List.size_toArray,List.length_append,List.length_take,List.length_drop,List.length_replicate,Array.length_toList]
    omega
   ·rw [Nat.mul_one] at htake ⊢
    rw [htake,hN,hC]
    have hCl : (digC l ++ List.replicate k (Value.int .u8 0)).length = l.length + k := by simp [digC]
    rw [← hCl]
    exact List.take_left
  ·have hold : (Builtin.firstCells i.size l.length (.slice (some ⟨g,0,none⟩) l.length cap)).run Tryz.prog w.drew = .ok (digC l).toArray w.drew := by
    rw [hsz]
    exact run_firstCells_some (P := Tryz.prog) w.drew 1 l.length ⟨g,0,none⟩ l.length cap (digC l) (by simp [digC]) (by
     intro j u hu
     have hj := (List.getElem?_eq_some_iff.1 hu).1
     have hj2 : j < l.length := by simpa [digC] using hj
     rw [Addr.add_lit,Lib.cell_of_heap (show w.drew.heap[g]? = _ from hg),Nat.zero_add]
     have h1 : (cur.toList.take (l.length * 1))[j]? = (digC l)[j]? := by rw [htake]
     rw [List.getElem?_take_of_lt (by omega)] at h1
     have h2 : cur[j]? = cur.toList[j]? := by simp
     rw [h2,h1,hu])
   have hk0 : 0 < k := by omega
   have hr := Lib.run_append_grow_zeros (P := Tryz.prog) w 116 3 ty 5 i (.int .u8 0) .i64 .i64 Tryz.underlying116 Tryz.underlying3 hi hz (some ⟨g,0,none⟩) l.length cap (digC l) hold k hk0 (by omega) (by omega) (by omega) (by rw [hby]; omega) (by rw [hby]; exact growslice_fits (by omega) (by omega))
   have hge := grownCap_ge w (l.length + k) cap 5
   have hcm2 : grownCap w (l.length + k) cap 5 ≤ maxLen := grownCap_le_maxLen w (l.length + k) cap 5 (by unfold maxLen; omega)
   refine ⟨_,_,hr,⟨hL,.inr ⟨w.heap.size,_,_,by rw [hN],hb,heap_alloc_new w.drew _,by omega,hcm2,?_,?_⟩⟩,⟨rfl,rfl,rfl,by simp,fun j hj _ => heap_alloc_old w.drew _ hj⟩⟩
   ·rw [zero_cells,zero_cells]
    simp [digC]
    omega
   ·rw [zero_cells,zero_cells,hC,Nat.mul_one,hN]
    have hCl : (digC l ++ List.replicate k (Value.int .u8 0)).length = l.length + k := by simp [digC]
    rw [← hCl]
    simp only [Array.toList_append]
    exact List.take_left
theorem grown_ext {base : Nat} {w0 w w' : World} {v : Value} {l : List Nat} (h : OwnD base v l w) (hg : w.grownBy w' v.ownBlock) (hbase : base ≤ w.heap.size) (hw0 : Ext w0 w) (hb0 : w0.heap.size ≤ base) : Ext w0 w' := by
 have hne : ∀ k,k < w0.heap.size → some k ≠ v.ownBlock := by
  intro k hk he
  rcases h.2 with ⟨rfl,_⟩ | ⟨g2,cap2,cur,rfl,hb2,_⟩
  ·cases he
  ·injection he with he
   simp only [] at he
   omega
 exact Below.trans hw0 ⟨hg.os,hg.tape,hg.output,hg.size,fun k hk => hg.block k (Nat.lt_of_lt_of_le hk (Nat.le_trans hb0 hbase)) (hne k hk)⟩
theorem wpList_zeros {ops : Array Oper} {rest : List Oper} {o : Oper} {a : Act} {Q : Exit → Act → World → Prop} (w w0 : World) (hgd : o.guard = none) (sl x : Operand)
  (ho : o.op = .call { callee := .builtin .append,args := #[sl,x],argTypes := #[116,3] })
  (base k : Nat) (v : Value) (l : List Nat) (hs : a.eval sl = v) (hx : a.eval x = .int .i64 k) (h : OwnD base v l w) (h0 : 0 < l.length) (hk : k < 100000) (hl : l.length < 100000) (hbase : base ≤ w.heap.size) (hw0 : Ext w0 w) (hb0 : w0.heap.size ≤ base)
  (hn : ∀ v' w',OwnD base v' (l ++ List.replicate k 0) w' → Ext w0 w' → wpList Tryz.prog ops Q rest (a.put o.dst v') w') :
  wpList Tryz.prog ops Q (o :: rest) a w := by
 obtain ⟨v',w',hr,h2,h3⟩ := run_zeros_own w o.type base k v l h h0 hk hl hbase
 exact Lib.wpList_append_run w hgd sl x 116 3 ho v (.int .i64 k) hs hx v' w' hr (hn v' w' h2 (grown_ext h h3 hbase hw0 hb0))
theorem wpList_copy_dig {ops : Array Oper} {rest : List Oper} {o : Oper} {a : Act} {Q : Exit → Act → World → Prop} (w : World) (hgd : o.guard = none) (sl x : Operand)
  (ho : o.op = .call { callee := .builtin .append,args := #[sl,x],argTypes := #[116,116] })
  (v : Value) (l : List Nat) (hs : a.eval sl = .slice none 0 0) (hx : a.eval x = v) (h : DigV v l w) (h0 : 0 < l.length) (hl : l.length < 100000)
  (hn : ∀ v' w',OwnD w.heap.size v' l w' → Ext w w' → wpList Tryz.prog ops Q rest (a.put o.dst v') w') :
  wpList Tryz.prog ops Q (o :: rest) a w := by
 obtain ⟨i,hi,hi3⟩ := Option.map_eq_some_iff.1 infoByte
 obtain ⟨hz,hsz,hby⟩ : i.zero = some (.int .u8 0) ∧ i.size = 1 ∧ i.bytes = 1 := by
  injection hi3 with h1 h2; injection h2 with h2 h3; exact ⟨h1,h2,h3⟩
 rcases h with ⟨rfl,_⟩ | ⟨b,off,c,rfl,hc,hb,hcell⟩
 ·simp at h0
 ·refine wpList_append_lies w hgd sl x 116 ho w.heap.size 5 i (.int .u8 0) 1 1 Tryz.underlying116 hi hz hsz hby rfl (by omega) (.slice none 0 0) 0 [] hs ⟨rfl,.inl ⟨rfl,rfl⟩⟩ ⟨b,off,none⟩ l.length c (digC l) hx (by simp [digC]) ?_ ?_ h0 (by unfold maxLen; omega) (by omega) (Nat.le_refl _) w.heap.size rfl ?_
  ·intro j u hu
   have hj := (List.getElem?_eq_some_iff.1 hu).1
   have hj2 : j < l.length := by simpa [digC] using hj
   rw [Addr.add_lit,hcell j hj2]
   simp [digC,List.getElem?_eq_getElem hj2] at hu
   rw [← hu]
  ·intro u hu
   obtain ⟨d,_,rfl⟩ := List.mem_map.1 hu
   rfl
  ·intro g cap w1 hown hgrow hat hlt
   rw [Nat.zero_add,List.nil_append] at hown
   rw [Nat.zero_add]
   exact hn _ _ hown ⟨hgrow.os,hgrow.tape,hgrow.output,hgrow.size,fun k hk => hgrow.block k hk (by simp [Value.ownBlock])⟩
def tensD (l : List Nat) (n : Nat) : List Nat := if l = [] then [] else l ++ List.replicate n 0
theorem tensD_digs (N n : Nat) : tensD (digs N) n = digs (N * 10 ^ n) := by
 unfold tensD
 by_cases h : N = 0
 ·subst h; rw [digs_zero]; simp [digs_zero]
 ·have hpos : 0 < N := by omega
  rw [if_neg (digs_ne hpos)]
  induction n with
  | zero => simp
  | succ n ih =>
    rw [List.replicate_succ',← List.append_assoc,ih,Nat.pow_succ,← Nat.mul_assoc]
    have hp : 0 < N * 10 ^ n := Nat.mul_pos hpos (Nat.pow_pos (by omega))
    rw [digs_pos (show 0 < N * 10 ^ n * 10 by omega),Nat.mul_div_cancel _ (by omega),Nat.mul_mod_left]
theorem tens_any (v : Value) (l : List Nat) (n : Nat) (w : World) (hv : DigV v l w) (hl : l.length < 100000) (hn : n < 100000) :
  Calls Tryz.prog 94 #[v,.int .i64 n] w fun e w' => (∃ v',e = .returned v' ∧ DigV v' (tensD l n) w') ∧ Ext w w' := by
 obtain ⟨p,c,rfl⟩ := hv.form
 by_cases h0 : l.length = 0
 ·have hnil : l = [] := List.eq_nil_of_length_eq_zero h0
  go_enter Tryz.func94,Tryz.ntmps94
  go_wp2_with fail
  go_ret
  exact ⟨⟨_,rfl,.inl ⟨by unfold tensD; rw [if_pos hnil],rfl⟩⟩,Ext.refl _⟩
 ·have hne : l ≠ [] := fun h => h0 (by rw [h]; rfl)
  go_enter Tryz.func94,Tryz.ntmps94
  go_wp2_with (at_builtin; refine wpList_copy_dig _ rfl _ _ rfl _ l rfl rfl ?c1 ?c2 ?c3 ?_)
  case c1 => exact hv
  case c2 => omega
  case c3 => exact hl
  intro v1 w1 hv1 x1
  go_wp2_with (at_builtin; refine wpList_zeros _ w rfl _ _ rfl w.heap.size n _ l rfl rfl ?c1 ?c2 ?c3 ?c4 ?c5 ?c6 ?c7 ?_)
  case c1 => exact hv1
  case c2 => omega
  case c3 => exact hn
  case c4 => exact hl
  case c5 => exact x1.size
  case c6 => exact x1
  case c7 => exact Nat.le_refl _
  intro v2 w2 hv2 x2
  go_wp2_with fail
  go_ret
  exact ⟨⟨_,rfl,by unfold tensD; rw [if_neg hne]; exact hv2.dig⟩,x2⟩
theorem cM_in (M S : Int) (hM : I64 M) : (I64 (cM M S) ∧ cM M S ≠ -9223372036854775808) ∧ 0 ≤ cS M S ∧ cS M S ≤ 18 := by
 unfold cM cS
 by_cases g : goodB M S = true
 ·rw [if_pos g,if_pos g]
  obtain ⟨a,b,c⟩ := good_range g
  exact ⟨⟨hM,c⟩,a,b⟩
 ·rw [if_neg g,if_neg g]
  exact ⟨⟨by unfold I64; omega,by omega⟩,by omega,by omega⟩
theorem digs_len19 {M : Int} (hM : I64 M) : (digs M.natAbs).length ≤ 19 := digs_length (by
 have h10 : (9223372036854775808 : Nat) < 10 ^ 19 := by decide
 unfold I64 at hM
 omega)
theorem tensD_len (l : List Nat) (n : Nat) : (tensD l n).length ≤ l.length + n := by
 unfold tensD
 split
 ·simp
 ·rw [List.length_append,List.length_replicate]; exact Nat.le_refl _
theorem absN_len {M S : Int} (hM : I64 M) (hS : 0 ≤ S ∧ S ≤ 18) : (digs (absN M S)).length ≤ 37 := by
 unfold absN
 rw [← tensD_digs]
 have := tensD_len (digs M.natAbs) (18 - S).toNat
 have := digs_len19 hM
 omega
theorem tens18 (M S : Int) (hM : I64 M) (hS : 0 ≤ S ∧ S ≤ 18) (v : Value) (w : World) (h : DigV v (digs M.natAbs) w) :
  Calls Tryz.prog 94 #[v,.int .i64 (IntKind.i64.wrap (18 - S))] w fun e w' => (∃ v',e = .returned v' ∧ DigV v' (digs (absN M S)) w') ∧ Ext w w' := by
 have := digs_len19 hM
 unfold absN
 rw [show IntKind.i64.wrap (18 - S) = ((18 - S).toNat : Int) from by rw [IntWalk.i64_in _ (by omega)]; omega,← tensD_digs]
 exact tens_any v _ _ w h (by omega) (by omega)
theorem RCompare_any (M1 S1 M2 S2 : Int) (w : World) (hM1 : I64 M1) (hS1 : I64 S1) (hM2 : I64 M2) (hS2 : I64 S2) :
  Calls Tryz.prog 64 #[decV M1 S1,decV M2 S2] w fun e w' => e = .returned (.int .i64 (rcV (cM M1 S1) (cS M1 S1) (cM M2 S2) (cS M2 S2))) ∧ Ext w w' := by
 have G1 := fun w => RGood_any M1 S1 w hM1 hS1
 have G2 := fun w => RGood_any M2 S2 w hM2 hS2
 obtain ⟨⟨i1,j1⟩,r1⟩ := cM_in M1 S1 hM1
 obtain ⟨⟨i2,j2⟩,r2⟩ := cM_in M2 S2 hM2
 have hx : Ext w ((w.alloc (.cells #[.int .i64 M1,.int .i64 S1] 38)).alloc (.cells #[.int .i64 M2,.int .i64 S2] 38)) := ((Ext.refl _).alloc _).alloc _
 have h1 : DecIn w.heap.size M1 S1 ((w.alloc (.cells #[.int .i64 M1,.int .i64 S1] 38)).alloc (.cells #[.int .i64 M2,.int .i64 S2] 38)) := heap_at2a _ _ _
 have h2 : DecIn (w.heap.size + 1) M2 S2 ((w.alloc (.cells #[.int .i64 M1,.int .i64 S1] 38)).alloc (.cells #[.int .i64 M2,.int .i64 S2] 38)) := heap_at2b _ _ _
 unfold decV at *
 obtain ⟨A1,eA1⟩ : ∃ x,cM M1 S1 = x := ⟨_,rfl⟩
 obtain ⟨T1,eT1⟩ : ∃ x,cS M1 S1 = x := ⟨_,rfl⟩
 obtain ⟨A2,eA2⟩ : ∃ x,cM M2 S2 = x := ⟨_,rfl⟩
 obtain ⟨T2,eT2⟩ : ∃ x,cS M2 S2 = x := ⟨_,rfl⟩
 rw [eA1,eT1,eA2,eT2]
 rw [eA1] at i1
 rw [eA2] at i2
 rw [eT1] at r1
 rw [eT2] at r2
 obtain ⟨RV,hRV⟩ : ∃ x,rcV A1 T1 A2 T2 = x := ⟨_,rfl⟩
 rw [hRV]
 by_cases g1 : goodB M1 S1 = true
 ·rw [g1] at G1
  by_cases g2 : goodB M2 S2 = true
  ·rw [g2] at G2
   go_enter Tryz.func64,Tryz.ntmps64
   obtain ⟨c0,c1⟩ := h1.cells
   obtain ⟨d0,d1⟩ := h2.cells
   go_wp2_with fail
   (with_reducible refine (G1 _).mono ?_)
   rintro e w1 ⟨rfl,x1⟩
   replace h1 := h1.ext x1
   replace h2 := h2.ext x1
   replace hx := hx.trans x1
   clear c0 c1 d0 d1
   obtain ⟨c0,c1⟩ := h1.cells
   obtain ⟨d0,d1⟩ := h2.cells
   obtain ⟨f0,f1⟩ := h1.free
   go_wp2_with fail
   (with_reducible refine (G2 _).mono ?_)
   rintro e w2 ⟨rfl,x2⟩
   replace h1 := h1.ext x2
   replace h2 := h2.ext x2
   replace hx := hx.trans x2
   clear c0 c1 d0 d1 f0 f1
   obtain ⟨W,hW⟩ : ∃ W,w2 = W := ⟨_,rfl⟩
   have k1 : DecIn w.heap.size (cM M1 S1) (cS M1 S1) w2 := by unfold cM cS; rw [if_pos g1,if_pos g1]; exact h1
   have k2 : DecIn (w.heap.size + 1) (cM M2 S2) (cS M2 S2) w2 := by unfold cM cS; rw [if_pos g2,if_pos g2]; exact h2
   rw [hW] at k1 k2 hx ⊢
   clear hW
   rw [eA1,eT1] at k1
   rw [eA2,eT2] at k2
   clear eA1 eT1 eA2 eT2 G1 G2 h1 h2 j1 j2
   have AM1 := fun w => amount_any A1 w i1
   have AM2 := fun w => amount_any A2 w i2
   have TE1 := fun v w h => tens18 A1 T1 i1 r1 v w h
   have TE2 := fun v w h => tens18 A2 T2 i2 r2 v w h
   have l1 := absN_len i1 r1
   have l2 := absN_len i2 r2
   obtain ⟨c0,c1⟩ := k1.cells
   obtain ⟨d0,d1⟩ := k2.cells
   have Y : Ext W W.drew := (Ext.refl _).drew
   have hY0 : True := trivial
   go_upto_region 5 with fail
   go_cut [5,6] (fun x y wx => DigV x (digs (absN A1 T1)) wx ∧ DigV y (digs (absN A2 T2)) wx ∧ Ext W wx)
   case first =>
    go_region_held3 (fun w' => w'.cell? ⟨w.heap.size,0,none⟩ = some (.int .i64 A1) ∧ w'.cell? ⟨w.heap.size,1,none⟩ = some (.int .i64 T1) ∧ w'.cell? ⟨w.heap.size + 1,0,none⟩ = some (.int .i64 A2) ∧ w'.cell? ⟨w.heap.size + 1,1,none⟩ = some (.int .i64 T2)) (first | exact ⟨p0,p1,q0,q1⟩ | exact ⟨c0,c1,d0,d1⟩ | go_keep) (first
     | (go_at_call 95; (with_reducible refine (AM1 _).mono ?_); rintro e wz ⟨⟨a1,rfl,hA1⟩,xz⟩; (try replace hA2 := hA2.ext xz); (try replace hX := hX.ext xz); (try replace hZ := hZ.ext xz); replace Y := Y.trans xz; have p0 := (k1.ext Y).cells.1; have p1 := (k1.ext Y).cells.2; have q0 := (k2.ext Y).cells.1; have q1 := (k2.ext Y).cells.2)
     | (go_at_call 95; (with_reducible refine (AM2 _).mono ?_); rintro e wz ⟨⟨a2,rfl,hA2⟩,xz⟩; (try replace hA1 := hA1.ext xz); (try replace hX := hX.ext xz); (try replace hZ := hZ.ext xz); replace Y := Y.trans xz; have p0 := (k1.ext Y).cells.1; have p1 := (k1.ext Y).cells.2; have q0 := (k2.ext Y).cells.1; have q1 := (k2.ext Y).cells.2)
     | (go_at_call 94; (with_reducible refine (TE1 _ _ ?h).mono ?_); (case h => exact hA1); rintro e wz ⟨⟨t1,rfl,hX⟩,xz⟩; (try replace hA1 := hA1.ext xz); (try replace hA2 := hA2.ext xz); (try replace hZ := hZ.ext xz); replace Y := Y.trans xz; have p0 := (k1.ext Y).cells.1; have p1 := (k1.ext Y).cells.2; have q0 := (k2.ext Y).cells.1; have q1 := (k2.ext Y).cells.2)
     | (go_at_call 94; (with_reducible refine (TE2 _ _ ?h).mono ?_); (case h => exact hA2); rintro e wz ⟨⟨t2,rfl,hZ⟩,xz⟩; (try replace hA1 := hA1.ext xz); (try replace hA2 := hA2.ext xz); (try replace hX := hX.ext xz); replace Y := Y.trans xz; have p0 := (k1.ext Y).cells.1; have p1 := (k1.ext Y).cells.2; have q0 := (k2.ext Y).cells.1; have q1 := (k2.ext Y).cells.2))
    all_goals
     go_wp2_with fail
     go_meet
     case rel => exact ⟨hX,hZ,Y⟩
   case rest =>
    obtain ⟨hX,hZ,xc⟩ := hcut
    have m1 := k1.ext xc
    have m2 := k2.ext xc
    have hxc := hx.trans xc
    clear c0 c1 d0 d1 k1 k2 AM1 AM2 TE1 TE2 Y hY0
    obtain ⟨c0,c1⟩ := m1.cells
    obtain ⟨d0,d1⟩ := m2.cells
    have CX := fun W h h' => dcompare_any u5 u6 _ _ W (hX.ext h) (hZ.ext h') (by omega) (by omega)
    have CZ := fun W h h' => dcompare_any u6 u5 _ _ W (hZ.ext h) (hX.ext h') (by omega) (by omega)
    rw [cmpDg_digs] at CX CZ
    by_cases n1 : A1 < 0
    ·by_cases n2 : A2 < 0
     ·have HV : Hid (RV = cmpN (absN A2 T2) (absN A1 T1)) := Lib.hid (by rw [← hRV]; unfold rcV; rw [if_pos ⟨n1,n2⟩])
      clear hRV
      go_wp2_with fail
      (with_reducible refine (CZ _ (Ext.refl _) (Ext.refl _)).mono ?_)
      rintro e w9 ⟨rfl,x9⟩
      go_wp2_with fail
      go_ret
      exact ⟨retI HV.out.symm,hxc.trans x9⟩
     ·have HV : Hid (RV = -1) := Lib.hid (by rw [← hRV]; unfold rcV; rw [if_neg (fun h => n2 h.2),if_pos n1])
      clear hRV
      go_wp2_with fail
      go_ret
      exact ⟨retI HV.out.symm,hxc⟩
    ·by_cases n2 : A2 < 0
     ·have HV : Hid (RV = 1) := Lib.hid (by rw [← hRV]; unfold rcV; rw [if_neg (fun h => n1 h.1),if_neg n1,if_pos n2])
      clear hRV
      go_wp2_with fail
      go_ret
      exact ⟨retI HV.out.symm,hxc⟩
     ·have HV : Hid (RV = cmpN (absN A1 T1) (absN A2 T2)) := Lib.hid (by rw [← hRV]; unfold rcV; rw [if_neg (fun h => n1 h.1),if_neg n1,if_neg n2])
      clear hRV
      go_wp2_with fail
      (with_reducible refine (CX _ (Ext.refl _) (Ext.refl _)).mono ?_)
      rintro e w9 ⟨rfl,x9⟩
      go_wp2_with fail
      go_ret
      exact ⟨retI HV.out.symm,hxc.trans x9⟩
  ·rw [show goodB M2 S2 = false from by simpa using g2] at G2
   go_enter Tryz.func64,Tryz.ntmps64
   obtain ⟨c0,c1⟩ := h1.cells
   obtain ⟨d0,d1⟩ := h2.cells
   go_wp2_with fail
   (with_reducible refine (G1 _).mono ?_)
   rintro e w1 ⟨rfl,x1⟩
   replace h1 := h1.ext x1
   replace h2 := h2.ext x1
   replace hx := hx.trans x1
   clear c0 c1 d0 d1
   obtain ⟨c0,c1⟩ := h1.cells
   obtain ⟨d0,d1⟩ := h2.cells
   obtain ⟨f0,f1⟩ := h1.free
   go_wp2_with fail
   (with_reducible refine (G2 _).mono ?_)
   rintro e w2 ⟨rfl,x2⟩
   replace h1 := h1.ext x2
   replace h2 := h2.ext x2
   replace hx := hx.trans x2
   clear c0 c1 d0 d1 f0 f1
   obtain ⟨f0,f1⟩ := h2.free
   have k1 : DecIn w.heap.size (cM M1 S1) (cS M1 S1) (setDec w2 (w.heap.size + 1) 0 0) := by unfold cM cS; rw [if_pos g1,if_pos g1]; exact (heap_setDec _ _ _ _ _ (by omega)).trans h1
   have k2 : DecIn (w.heap.size + 1) (cM M2 S2) (cS M2 S2) (setDec w2 (w.heap.size + 1) 0 0) := by unfold cM cS; rw [if_neg g2,if_neg g2]; exact h2.stored 0 0
   obtain ⟨d0,d1⟩ := h2.cells
   replace hx := ext_setDec hx (Nat.le_succ _) 0 0
   go_upto_region 5 with fail
   change Code.wp _ _ _ _ (setDec w2 (w.heap.size + 1) 0 0)
   generalize setDec w2 (w.heap.size + 1) 0 0 = W at *
   clear d0 d1 f0 f1
   rw [eA1,eT1] at k1
   rw [eA2,eT2] at k2
   clear eA1 eT1 eA2 eT2 G1 G2 h1 h2 j1 j2
   have AM1 := fun w => amount_any A1 w i1
   have AM2 := fun w => amount_any A2 w i2
   have TE1 := fun v w h => tens18 A1 T1 i1 r1 v w h
   have TE2 := fun v w h => tens18 A2 T2 i2 r2 v w h
   have l1 := absN_len i1 r1
   have l2 := absN_len i2 r2
   obtain ⟨c0,c1⟩ := k1.cells
   obtain ⟨d0,d1⟩ := k2.cells
   have Y : Ext W W.drew := (Ext.refl _).drew
   have hY0 : True := trivial
   go_upto_region 5 with fail
   go_cut [5,6] (fun x y wx => DigV x (digs (absN A1 T1)) wx ∧ DigV y (digs (absN A2 T2)) wx ∧ Ext W wx)
   case first =>
    go_region_held3 (fun w' => w'.cell? ⟨w.heap.size,0,none⟩ = some (.int .i64 A1) ∧ w'.cell? ⟨w.heap.size,1,none⟩ = some (.int .i64 T1) ∧ w'.cell? ⟨w.heap.size + 1,0,none⟩ = some (.int .i64 A2) ∧ w'.cell? ⟨w.heap.size + 1,1,none⟩ = some (.int .i64 T2)) (first | exact ⟨p0,p1,q0,q1⟩ | exact ⟨c0,c1,d0,d1⟩ | go_keep) (first
     | (go_at_call 95; (with_reducible refine (AM1 _).mono ?_); rintro e wz ⟨⟨a1,rfl,hA1⟩,xz⟩; (try replace hA2 := hA2.ext xz); (try replace hX := hX.ext xz); (try replace hZ := hZ.ext xz); replace Y := Y.trans xz; have p0 := (k1.ext Y).cells.1; have p1 := (k1.ext Y).cells.2; have q0 := (k2.ext Y).cells.1; have q1 := (k2.ext Y).cells.2)
     | (go_at_call 95; (with_reducible refine (AM2 _).mono ?_); rintro e wz ⟨⟨a2,rfl,hA2⟩,xz⟩; (try replace hA1 := hA1.ext xz); (try replace hX := hX.ext xz); (try replace hZ := hZ.ext xz); replace Y := Y.trans xz; have p0 := (k1.ext Y).cells.1; have p1 := (k1.ext Y).cells.2; have q0 := (k2.ext Y).cells.1; have q1 := (k2.ext Y).cells.2)
     | (go_at_call 94; (with_reducible refine (TE1 _ _ ?h).mono ?_); (case h => exact hA1); rintro e wz ⟨⟨t1,rfl,hX⟩,xz⟩; (try replace hA1 := hA1.ext xz); (try replace hA2 := hA2.ext xz); (try replace hZ := hZ.ext xz); replace Y := Y.trans xz; have p0 := (k1.ext Y).cells.1; have p1 := (k1.ext Y).cells.2; have q0 := (k2.ext Y).cells.1; have q1 := (k2.ext Y).cells.2)
     | (go_at_call 94; (with_reducible refine (TE2 _ _ ?h).mono ?_); (case h => exact hA2); rintro e wz ⟨⟨t2,rfl,hZ⟩,xz⟩; (try replace hA1 := hA1.ext xz); (try replace hA2 := hA2.ext xz); (try replace hX := hX.ext xz); replace Y := Y.trans xz; have p0 := (k1.ext Y).cells.1; have p1 := (k1.ext Y).cells.2; have q0 := (k2.ext Y).cells.1; have q1 := (k2.ext Y).cells.2))
    all_goals
     go_wp2_with fail
     go_meet
     case rel => exact ⟨hX,hZ,Y⟩
   case rest =>
    obtain ⟨hX,hZ,xc⟩ := hcut
    have m1 := k1.ext xc
    have m2 := k2.ext xc
    have hxc := hx.trans xc
    clear c0 c1 d0 d1 k1 k2 AM1 AM2 TE1 TE2 Y hY0
    obtain ⟨c0,c1⟩ := m1.cells
    obtain ⟨d0,d1⟩ := m2.cells
    have CX := fun W h h' => dcompare_any u5 u6 _ _ W (hX.ext h) (hZ.ext h') (by omega) (by omega)
    have CZ := fun W h h' => dcompare_any u6 u5 _ _ W (hZ.ext h) (hX.ext h') (by omega) (by omega)
    rw [cmpDg_digs] at CX CZ
    by_cases n1 : A1 < 0
    ·by_cases n2 : A2 < 0
     ·have HV : Hid (RV = cmpN (absN A2 T2) (absN A1 T1)) := Lib.hid (by rw [← hRV]; unfold rcV; rw [if_pos ⟨n1,n2⟩])
      clear hRV
      go_wp2_with fail
      (with_reducible refine (CZ _ (Ext.refl _) (Ext.refl _)).mono ?_)
      rintro e w9 ⟨rfl,x9⟩
      go_wp2_with fail
      go_ret
      exact ⟨retI HV.out.symm,hxc.trans x9⟩
     ·have HV : Hid (RV = -1) := Lib.hid (by rw [← hRV]; unfold rcV; rw [if_neg (fun h => n2 h.2),if_pos n1])
      clear hRV
      go_wp2_with fail
      go_ret
      exact ⟨retI HV.out.symm,hxc⟩
    ·by_cases n2 : A2 < 0
     ·have HV : Hid (RV = 1) := Lib.hid (by rw [← hRV]; unfold rcV; rw [if_neg (fun h => n1 h.1),if_neg n1,if_pos n2])
      clear hRV
      go_wp2_with fail
      go_ret
      exact ⟨retI HV.out.symm,hxc⟩
     ·have HV : Hid (RV = cmpN (absN A1 T1) (absN A2 T2)) := Lib.hid (by rw [← hRV]; unfold rcV; rw [if_neg (fun h => n1 h.1),if_neg n1,if_neg n2])
      clear hRV
      go_wp2_with fail
      (with_reducible refine (CX _ (Ext.refl _) (Ext.refl _)).mono ?_)
      rintro e w9 ⟨rfl,x9⟩
      go_wp2_with fail
      go_ret
      exact ⟨retI HV.out.symm,hxc.trans x9⟩
 ·rw [show goodB M1 S1 = false from by simpa using g1] at G1
  by_cases g2 : goodB M2 S2 = true
  ·rw [g2] at G2
   go_enter Tryz.func64,Tryz.ntmps64
   obtain ⟨c0,c1⟩ := h1.cells
   obtain ⟨d0,d1⟩ := h2.cells
   go_wp2_with fail
   (with_reducible refine (G1 _).mono ?_)
   rintro e w1 ⟨rfl,x1⟩
   replace h1 := h1.ext x1
   replace h2 := h2.ext x1
   replace hx := hx.trans x1
   clear c0 c1 d0 d1
   obtain ⟨c0,c1⟩ := h1.cells
   obtain ⟨d0,d1⟩ := h2.cells
   obtain ⟨f0,f1⟩ := h1.free
   go_wp2_with fail
   (with_reducible refine (G2 _).mono ?_)
   rintro e w2 ⟨rfl,x2⟩
   have h3 : DecIn w.heap.size 0 0 w2 := (h1.stored 0 0).ext x2
   have h4 : DecIn (w.heap.size + 1) M2 S2 w2 := DecIn.ext ((heap_setDec _ _ _ _ _ (by omega)).trans h2) x2
   replace hx := (ext_setDec hx (Nat.le_refl _) 0 0).trans x2
   clear h1 h2
   have h1 := h3
   have h2 := h4
   clear c0 c1 d0 d1 f0 f1
   obtain ⟨W,hW⟩ : ∃ W,w2 = W := ⟨_,rfl⟩
   have k1 : DecIn w.heap.size (cM M1 S1) (cS M1 S1) w2 := by unfold cM cS; rw [if_neg g1,if_neg g1]; exact h1
   have k2 : DecIn (w.heap.size + 1) (cM M2 S2) (cS M2 S2) w2 := by unfold cM cS; rw [if_pos g2,if_pos g2]; exact h2
   rw [hW] at k1 k2 hx ⊢
   clear hW
   rw [eA1,eT1] at k1
   rw [eA2,eT2] at k2
   clear eA1 eT1 eA2 eT2 G1 G2 h1 h2 j1 j2
   have AM1 := fun w => amount_any A1 w i1
   have AM2 := fun w => amount_any A2 w i2
   have TE1 := fun v w h => tens18 A1 T1 i1 r1 v w h
   have TE2 := fun v w h => tens18 A2 T2 i2 r2 v w h
   have l1 := absN_len i1 r1
   have l2 := absN_len i2 r2
   obtain ⟨c0,c1⟩ := k1.cells
   obtain ⟨d0,d1⟩ := k2.cells
   have Y : Ext W W.drew := (Ext.refl _).drew
   have hY0 : True := trivial
   go_upto_region 5 with fail
   go_cut [5,6] (fun x y wx => DigV x (digs (absN A1 T1)) wx ∧ DigV y (digs (absN A2 T2)) wx ∧ Ext W wx)
   case first =>
    go_region_held3 (fun w' => w'.cell? ⟨w.heap.size,0,none⟩ = some (.int .i64 A1) ∧ w'.cell? ⟨w.heap.size,1,none⟩ = some (.int .i64 T1) ∧ w'.cell? ⟨w.heap.size + 1,0,none⟩ = some (.int .i64 A2) ∧ w'.cell? ⟨w.heap.size + 1,1,none⟩ = some (.int .i64 T2)) (first | exact ⟨p0,p1,q0,q1⟩ | exact ⟨c0,c1,d0,d1⟩ | go_keep) (first
     | (go_at_call 95; (with_reducible refine (AM1 _).mono ?_); rintro e wz ⟨⟨a1,rfl,hA1⟩,xz⟩; (try replace hA2 := hA2.ext xz); (try replace hX := hX.ext xz); (try replace hZ := hZ.ext xz); replace Y := Y.trans xz; have p0 := (k1.ext Y).cells.1; have p1 := (k1.ext Y).cells.2; have q0 := (k2.ext Y).cells.1; have q1 := (k2.ext Y).cells.2)
     | (go_at_call 95; (with_reducible refine (AM2 _).mono ?_); rintro e wz ⟨⟨a2,rfl,hA2⟩,xz⟩; (try replace hA1 := hA1.ext xz); (try replace hX := hX.ext xz); (try replace hZ := hZ.ext xz); replace Y := Y.trans xz; have p0 := (k1.ext Y).cells.1; have p1 := (k1.ext Y).cells.2; have q0 := (k2.ext Y).cells.1; have q1 := (k2.ext Y).cells.2)
     | (go_at_call 94; (with_reducible refine (TE1 _ _ ?h).mono ?_); (case h => exact hA1); rintro e wz ⟨⟨t1,rfl,hX⟩,xz⟩; (try replace hA1 := hA1.ext xz); (try replace hA2 := hA2.ext xz); (try replace hZ := hZ.ext xz); replace Y := Y.trans xz; have p0 := (k1.ext Y).cells.1; have p1 := (k1.ext Y).cells.2; have q0 := (k2.ext Y).cells.1; have q1 := (k2.ext Y).cells.2)
     | (go_at_call 94; (with_reducible refine (TE2 _ _ ?h).mono ?_); (case h => exact hA2); rintro e wz ⟨⟨t2,rfl,hZ⟩,xz⟩; (try replace hA1 := hA1.ext xz); (try replace hA2 := hA2.ext xz); (try replace hX := hX.ext xz); replace Y := Y.trans xz; have p0 := (k1.ext Y).cells.1; have p1 := (k1.ext Y).cells.2; have q0 := (k2.ext Y).cells.1; have q1 := (k2.ext Y).cells.2))
    all_goals
     go_wp2_with fail
     go_meet
     case rel => exact ⟨hX,hZ,Y⟩
   case rest =>
    obtain ⟨hX,hZ,xc⟩ := hcut
    have m1 := k1.ext xc
    have m2 := k2.ext xc
    have hxc := hx.trans xc
    clear c0 c1 d0 d1 k1 k2 AM1 AM2 TE1 TE2 Y hY0
    obtain ⟨c0,c1⟩ := m1.cells
    obtain ⟨d0,d1⟩ := m2.cells
    have CX := fun W h h' => dcompare_any u5 u6 _ _ W (hX.ext h) (hZ.ext h') (by omega) (by omega)
    have CZ := fun W h h' => dcompare_any u6 u5 _ _ W (hZ.ext h) (hX.ext h') (by omega) (by omega)
    rw [cmpDg_digs] at CX CZ
    by_cases n1 : A1 < 0
    ·by_cases n2 : A2 < 0
     ·have HV : Hid (RV = cmpN (absN A2 T2) (absN A1 T1)) := Lib.hid (by rw [← hRV]; unfold rcV; rw [if_pos ⟨n1,n2⟩])
      clear hRV
      go_wp2_with fail
      (with_reducible refine (CZ _ (Ext.refl _) (Ext.refl _)).mono ?_)
      rintro e w9 ⟨rfl,x9⟩
      go_wp2_with fail
      go_ret
      exact ⟨retI HV.out.symm,hxc.trans x9⟩
     ·have HV : Hid (RV = -1) := Lib.hid (by rw [← hRV]; unfold rcV; rw [if_neg (fun h => n2 h.2),if_pos n1])
      clear hRV
      go_wp2_with fail
      go_ret
      exact ⟨retI HV.out.symm,hxc⟩
    ·by_cases n2 : A2 < 0
     ·have HV : Hid (RV = 1) := Lib.hid (by rw [← hRV]; unfold rcV; rw [if_neg (fun h => n1 h.1),if_neg n1,if_pos n2])
      clear hRV
      go_wp2_with fail
      go_ret
      exact ⟨retI HV.out.symm,hxc⟩
     ·have HV : Hid (RV = cmpN (absN A1 T1) (absN A2 T2)) := Lib.hid (by rw [← hRV]; unfold rcV; rw [if_neg (fun h => n1 h.1),if_neg n1,if_neg n2])
      clear hRV
      go_wp2_with fail
      (with_reducible refine (CX _ (Ext.refl _) (Ext.refl _)).mono ?_)
      rintro e w9 ⟨rfl,x9⟩
      go_wp2_with fail
      go_ret
      exact ⟨retI HV.out.symm,hxc.trans x9⟩
  ·rw [show goodB M2 S2 = false from by simpa using g2] at G2
   go_enter Tryz.func64,Tryz.ntmps64
   obtain ⟨c0,c1⟩ := h1.cells
   obtain ⟨d0,d1⟩ := h2.cells
   go_wp2_with fail
   (with_reducible refine (G1 _).mono ?_)
   rintro e w1 ⟨rfl,x1⟩
   replace h1 := h1.ext x1
   replace h2 := h2.ext x1
   replace hx := hx.trans x1
   clear c0 c1 d0 d1
   obtain ⟨c0,c1⟩ := h1.cells
   obtain ⟨d0,d1⟩ := h2.cells
   obtain ⟨f0,f1⟩ := h1.free
   go_wp2_with fail
   (with_reducible refine (G2 _).mono ?_)
   rintro e w2 ⟨rfl,x2⟩
   have h3 : DecIn w.heap.size 0 0 w2 := (h1.stored 0 0).ext x2
   have h4 : DecIn (w.heap.size + 1) M2 S2 w2 := DecIn.ext ((heap_setDec _ _ _ _ _ (by omega)).trans h2) x2
   replace hx := (ext_setDec hx (Nat.le_refl _) 0 0).trans x2
   clear h1 h2
   have h1 := h3
   have h2 := h4
   clear c0 c1 d0 d1 f0 f1
   obtain ⟨f0,f1⟩ := h2.free
   have k1 : DecIn w.heap.size (cM M1 S1) (cS M1 S1) (setDec w2 (w.heap.size + 1) 0 0) := by unfold cM cS; rw [if_neg g1,if_neg g1]; exact (heap_setDec _ _ _ _ _ (by omega)).trans h1
   have k2 : DecIn (w.heap.size + 1) (cM M2 S2) (cS M2 S2) (setDec w2 (w.heap.size + 1) 0 0) := by unfold cM cS; rw [if_neg g2,if_neg g2]; exact h2.stored 0 0
   obtain ⟨d0,d1⟩ := h2.cells
   replace hx := ext_setDec hx (Nat.le_succ _) 0 0
   go_upto_region 5 with fail
   change Code.wp _ _ _ _ (setDec w2 (w.heap.size + 1) 0 0)
   generalize setDec w2 (w.heap.size + 1) 0 0 = W at *
   clear d0 d1 f0 f1
   rw [eA1,eT1] at k1
   rw [eA2,eT2] at k2
   clear eA1 eT1 eA2 eT2 G1 G2 h1 h2 j1 j2
   have AM1 := fun w => amount_any A1 w i1
   have AM2 := fun w => amount_any A2 w i2
   have TE1 := fun v w h => tens18 A1 T1 i1 r1 v w h
   have TE2 := fun v w h => tens18 A2 T2 i2 r2 v w h
   have l1 := absN_len i1 r1
   have l2 := absN_len i2 r2
   obtain ⟨c0,c1⟩ := k1.cells
   obtain ⟨d0,d1⟩ := k2.cells
   have Y : Ext W W.drew := (Ext.refl _).drew
   have hY0 : True := trivial
   go_upto_region 5 with fail
   go_cut [5,6] (fun x y wx => DigV x (digs (absN A1 T1)) wx ∧ DigV y (digs (absN A2 T2)) wx ∧ Ext W wx)
   case first =>
    go_region_held3 (fun w' => w'.cell? ⟨w.heap.size,0,none⟩ = some (.int .i64 A1) ∧ w'.cell? ⟨w.heap.size,1,none⟩ = some (.int .i64 T1) ∧ w'.cell? ⟨w.heap.size + 1,0,none⟩ = some (.int .i64 A2) ∧ w'.cell? ⟨w.heap.size + 1,1,none⟩ = some (.int .i64 T2)) (first | exact ⟨p0,p1,q0,q1⟩ | exact ⟨c0,c1,d0,d1⟩ | go_keep) (first
     | (go_at_call 95; (with_reducible refine (AM1 _).mono ?_); rintro e wz ⟨⟨a1,rfl,hA1⟩,xz⟩; (try replace hA2 := hA2.ext xz); (try replace hX := hX.ext xz); (try replace hZ := hZ.ext xz); replace Y := Y.trans xz; have p0 := (k1.ext Y).cells.1; have p1 := (k1.ext Y).cells.2; have q0 := (k2.ext Y).cells.1; have q1 := (k2.ext Y).cells.2)
     | (go_at_call 95; (with_reducible refine (AM2 _).mono ?_); rintro e wz ⟨⟨a2,rfl,hA2⟩,xz⟩; (try replace hA1 := hA1.ext xz); (try replace hX := hX.ext xz); (try replace hZ := hZ.ext xz); replace Y := Y.trans xz; have p0 := (k1.ext Y).cells.1; have p1 := (k1.ext Y).cells.2; have q0 := (k2.ext Y).cells.1; have q1 := (k2.ext Y).cells.2)
     | (go_at_call 94; (with_reducible refine (TE1 _ _ ?h).mono ?_); (case h => exact hA1); rintro e wz ⟨⟨t1,rfl,hX⟩,xz⟩; (try replace hA1 := hA1.ext xz); (try replace hA2 := hA2.ext xz); (try replace hZ := hZ.ext xz); replace Y := Y.trans xz; have p0 := (k1.ext Y).cells.1; have p1 := (k1.ext Y).cells.2; have q0 := (k2.ext Y).cells.1; have q1 := (k2.ext Y).cells.2)
     | (go_at_call 94; (with_reducible refine (TE2 _ _ ?h).mono ?_); (case h => exact hA2); rintro e wz ⟨⟨t2,rfl,hZ⟩,xz⟩; (try replace hA1 := hA1.ext xz); (try replace hA2 := hA2.ext xz); (try replace hX := hX.ext xz); replace Y := Y.trans xz; have p0 := (k1.ext Y).cells.1; have p1 := (k1.ext Y).cells.2; have q0 := (k2.ext Y).cells.1; have q1 := (k2.ext Y).cells.2))
    all_goals
     go_wp2_with fail
     go_meet
     case rel => exact ⟨hX,hZ,Y⟩
   case rest =>
    obtain ⟨hX,hZ,xc⟩ := hcut
    have m1 := k1.ext xc
    have m2 := k2.ext xc
    have hxc := hx.trans xc
    clear c0 c1 d0 d1 k1 k2 AM1 AM2 TE1 TE2 Y hY0
    obtain ⟨c0,c1⟩ := m1.cells
    obtain ⟨d0,d1⟩ := m2.cells
    have CX := fun W h h' => dcompare_any u5 u6 _ _ W (hX.ext h) (hZ.ext h') (by omega) (by omega)
    have CZ := fun W h h' => dcompare_any u6 u5 _ _ W (hZ.ext h) (hX.ext h') (by omega) (by omega)
    rw [cmpDg_digs] at CX CZ
    by_cases n1 : A1 < 0
    ·by_cases n2 : A2 < 0
     ·have HV : Hid (RV = cmpN (absN A2 T2) (absN A1 T1)) := Lib.hid (by rw [← hRV]; unfold rcV; rw [if_pos ⟨n1,n2⟩])
      clear hRV
      go_wp2_with fail
      (with_reducible refine (CZ _ (Ext.refl _) (Ext.refl _)).mono ?_)
      rintro e w9 ⟨rfl,x9⟩
      go_wp2_with fail
      go_ret
      exact ⟨retI HV.out.symm,hxc.trans x9⟩
     ·have HV : Hid (RV = -1) := Lib.hid (by rw [← hRV]; unfold rcV; rw [if_neg (fun h => n2 h.2),if_pos n1])
      clear hRV
      go_wp2_with fail
      go_ret
      exact ⟨retI HV.out.symm,hxc⟩
    ·by_cases n2 : A2 < 0
     ·have HV : Hid (RV = 1) := Lib.hid (by rw [← hRV]; unfold rcV; rw [if_neg (fun h => n1 h.1),if_neg n1,if_pos n2])
      clear hRV
      go_wp2_with fail
      go_ret
      exact ⟨retI HV.out.symm,hxc⟩
     ·have HV : Hid (RV = cmpN (absN A1 T1) (absN A2 T2)) := Lib.hid (by rw [← hRV]; unfold rcV; rw [if_neg (fun h => n1 h.1),if_neg n1,if_neg n2])
      clear hRV
      go_wp2_with fail
      (with_reducible refine (CX _ (Ext.refl _) (Ext.refl _)).mono ?_)
      rintro e w9 ⟨rfl,x9⟩
      go_wp2_with fail
      go_ret
      exact ⟨retI HV.out.symm,hxc.trans x9⟩
end Go.Proofs.YtjjnmefihdjglaaGreat
