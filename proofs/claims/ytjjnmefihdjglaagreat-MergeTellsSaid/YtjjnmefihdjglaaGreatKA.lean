import Derived.Test.YtjjnmefihdjglaaGreatRows
import Derived.WalkKit
import Derived.WalkSpells
import Derived.WalkLawsBesides
import Derived.BigQuiet
import Derived.Deep.QuietTactic
import Derived.Lib.Hide
import Derived.Shelf.Small.Bits
import Derived.Shelf.Strconv.Itoa0
import Derived.Shelf.Bits.Mul64
import Derived.Shelf.Spec.BitsCarry
import Derived.StillTailTactics
import Derived.Deep.AppendLies
import Derived.Laws.Bits64b
import Derived.Lib.FrozenHead
set_option maxRecDepth 100000
set_option maxHeartbeats 64000000
set_option linter.all false
namespace Go.Proofs.YtjjnmefihdjglaaGreat
open Go.RowKit
def Ext (w w' : World) : Prop := Below w.heap.size w w'
theorem Ext.refl (w : World) : Ext w w := Below.refl _ _
theorem Ext.size {w w' : World} (h : Ext w w') : w.heap.size ≤ w'.heap.size := Below.size h
theorem Ext.trans {a b c : World} (h : Ext a b) (k : Ext b c) : Ext a c := Below.trans h (Below.mono k h.size)
theorem Ext.alloc {a w : World} (h : Ext a w) (o : Obj) : Ext a (w.alloc o) := Below.alloc h h.size o
theorem Ext.drewN {a w : World} (h : Ext a w) (n : Nat) : Ext a (w.drewN n) := Below.trans h ⟨rfl,rfl,rfl,Nat.le_refl _,fun _ _ => rfl⟩
theorem Ext.drew {a w : World} (h : Ext a w) : Ext a w.drew := Below.trans h ⟨rfl,rfl,rfl,Nat.le_refl _,fun _ _ => rfl⟩
theorem Ext.cell {w w' : World} (h : Ext w w') {p : Addr} (hp : p.block < w.heap.size) : w'.cell? p = w.cell? p := Below.cell h hp
theorem Ext.frozen {w w' : World} (h : Ext w w') {p : Addr} (hp : p.block < w.heap.size) : w'.frozen? p = w.frozen? p := Below.frozen h hp
theorem Ext.heap {w w' : World} (h : Ext w w') {k : Nat} (hk : k < w.heap.size) : w'.heap[k]? = w.heap[k]? := Below.block h k hk
theorem retI {k : IntKind} {a b : Int} (h : a = b) : Ending.returned (.int k a) = .returned (.int k b) := by rw [h]
theorem retB {a b : Bool} (h : a = b) : Ending.returned (.bool a) = .returned (.bool b) := by rw [h]
theorem ret2 {a a' b b' : Value} (h1 : a = a') (h2 : b = b') : Ending.returned (.tuple #[a,b]) = .returned (.tuple #[a',b']) := by rw [h1,h2]
theorem ret3 {a a' b b' c c' : Value} (h1 : a = a') (h2 : b = b') (h3 : c = c') : Ending.returned (.tuple #[a,b,c]) = .returned (.tuple #[a',b',c']) := by rw [h1,h2,h3]
theorem vI {k : IntKind} {a b : Int} (h : a = b) : Value.int k a = .int k b := by rw [h]
theorem vB {a b : Bool} (h : a = b) : Value.bool a = .bool b := by rw [h]
end Go.Proofs.YtjjnmefihdjglaaGreat
namespace Go.Proofs.YtjjnmefihdjglaaGreat
def sizeN (c : Nat) : Nat := if c < 128 then 1 else if c < 194 then 0 else if c < 224 then 2 else if c < 240 then 3 else if c < 245 then 4 else 0
def loN (c : Nat) : Nat := if c = 224 then 160 else if c = 240 then 144 else 128
def hiN (c : Nat) : Nat := if c = 237 then 159 else if c = 244 then 143 else 191
def headN (n c : Nat) : Nat := if n = 1 then c % 128 else if n = 2 then c % 32 else if n = 3 then c % 16 else c % 8
def frontGo : (rem k lo hi : Nat) → List Nat → Nat → Nat × Nat × Bool
 | 0,k,_,_,_,r => (r,k,true)
 | _ + 1,k,_,_,[],_ => (0,k,false)
 | rem + 1,k,lo,hi,d :: l,r => if d < lo ∨ hi < d then (0,k,false) else frontGo rem (k + 1) 128 191 l (r * 64 + d % 64)
def frontL : List Nat → Nat × Nat × Bool
 | [] => (0,0,false)
 | c :: l => if sizeN c = 0 then (0,0,false) else frontGo (sizeN c - 1) 1 (loN c) (hiN c) l (headN (sizeN c) c)
def bs (s : ByteArray) : List Nat := s.data.toList.map UInt8.toNat
theorem length_bs (s : ByteArray) : (bs s).length = s.size := by simp [bs]
theorem drop_bs (s : ByteArray) (i : Nat) (h : i < s.size) : (bs s).drop i = s[i].toNat :: (bs s).drop (i + 1) := by
 have hl : i < (bs s).length := by rw [length_bs]; exact h
 rw [List.drop_eq_getElem_cons hl]
 simp [bs]; rfl
theorem drop_bs_nil (s : ByteArray) (i : Nat) (h : s.size ≤ i) : (bs s).drop i = [] := List.drop_eq_nil_of_le (by rw [length_bs]; exact h)
theorem size_cases (c : Nat) : sizeN c = 0 ∨ sizeN c = 1 ∨ sizeN c = 2 ∨ sizeN c = 3 ∨ sizeN c = 4 := by
 unfold sizeN; (repeat' split) <;> simp
theorem frontGo_end (k lo hi : Nat) (l : List Nat) (r : Nat) : frontGo 0 k lo hi l r = (r,k,true) := by cases l <;> rfl
theorem frontGo_nil {rem : Nat} (h : 0 < rem) (k lo hi r : Nat) : frontGo rem k lo hi [] r = (0,k,false) := by
 cases rem with
 | zero => omega
 | succ n => rfl
theorem frontGo_bad {rem : Nat} (h : 0 < rem) (k lo hi r : Nat) {d : Nat} (l : List Nat) (hd : d < lo ∨ hi < d) : frontGo rem k lo hi (d :: l) r = (0,k,false) := by
 cases rem with
 | zero => omega
 | succ n => rw [frontGo,if_pos hd]
theorem frontGo_ok {rem : Nat} (h : 0 < rem) (k lo hi r : Nat) {d : Nat} (l : List Nat) (hd : lo ≤ d ∧ d ≤ hi) : frontGo rem k lo hi (d :: l) r = frontGo (rem - 1) (k + 1) 128 191 l (r * 64 + d % 64) := by
 cases rem with
 | zero => omega
 | succ n => rw [frontGo,if_neg (by omega)]; rfl
theorem frontGo_bounds (rem : Nat) : ∀ (k lo hi : Nat) (l : List Nat) (r : Nat),k ≤ (frontGo rem k lo hi l r).2.1 ∧ (frontGo rem k lo hi l r).2.1 ≤ k + l.length ∧ (frontGo rem k lo hi l r).2.1 ≤ k + rem ∧ ((frontGo rem k lo hi l r).2.2 = true → (frontGo rem k lo hi l r).2.1 = k + rem) := by
 induction rem with
 | zero => intro k lo hi l r; rw [frontGo_end]; simp
 | succ n ih =>
   intro k lo hi l r
   cases l with
   | nil => simp [frontGo]
   | cons d l =>
     rw [frontGo]
     split
     ·simp
     ·have := ih (k + 1) 128 191 l (r * 64 + d % 64)
      simp only [List.length_cons]
      refine ⟨by omega,by omega,by omega,fun h => by have := this.2.2.2 h; omega⟩
theorem frontL_bounds (l : List Nat) : (frontL l).2.1 ≤ l.length ∧ (frontL l).2.1 ≤ 4 ∧ ((frontL l).2.2 = true → 1 ≤ (frontL l).2.1) := by
 cases l with
 | nil => simp [frontL]
 | cons c l =>
   rw [frontL]
   split
   ·simp
   ·have := frontGo_bounds (sizeN c - 1) 1 (loN c) (hiN c) l (headN (sizeN c) c)
    have := size_cases c
    simp only [List.length_cons]
    refine ⟨by omega,by omega,fun h => by omega⟩
def walkGo : (fuel count pos : Nat) → List Nat → Int × Int
 | _,count,_,[] => (count,-1)
 | 0,_,pos,_ :: _ => (-1,pos)
 | fuel + 1,count,pos,c :: l => if (frontL (c :: l)).2.2 then walkGo fuel (count + 1) (pos + (frontL (c :: l)).2.1) ((c :: l).drop (frontL (c :: l)).2.1) else (-1,(pos + (frontL (c :: l)).2.1 : Nat))
def walkL (l : List Nat) : Int × Int := walkGo l.length 0 0 l
theorem walkGo_nil (fuel count pos : Nat) : walkGo fuel count pos [] = ((count : Int),(-1 : Int)) := by cases fuel <;> rfl
theorem walkGo_ok {fuel : Nat} (count pos : Nat) {c : Nat} {l : List Nat} (hf : 0 < fuel) (h : (frontL (c :: l)).2.2 = true) :
  walkGo fuel count pos (c :: l) = walkGo (fuel - 1) (count + 1) (pos + (frontL (c :: l)).2.1) ((c :: l).drop (frontL (c :: l)).2.1) := by
 cases fuel with
 | zero => omega
 | succ n => rw [walkGo,if_pos h]; rfl
theorem walkGo_bad {fuel : Nat} (count pos : Nat) {c : Nat} {l : List Nat} (hf : 0 < fuel) (h : (frontL (c :: l)).2.2 = false) :
  walkGo fuel count pos (c :: l) = ((-1 : Int),((pos + (frontL (c :: l)).2.1 : Nat) : Int)) := by
 cases fuel with
 | zero => omega
 | succ n => rw [walkGo,if_neg (by simp [h])]
def badL (l : List Nat) : Int := (walkL l).2
def spanN (c : Nat) : Nat × Nat × Nat :=
 if c < 128 then (1,0,0) else if c < 194 ∨ 244 < c then (0,0,0) else if c < 224 then (2,128,191) else if c = 224 then (3,160,191) else if c = 237 then (3,128,159)
 else if c < 240 then (3,128,191) else if c = 240 then (4,144,191) else if c = 244 then (4,128,143) else (4,128,191)
theorem spanN_size (c : Nat) : (spanN c).1 = sizeN c := by
 unfold spanN sizeN; (repeat' split) <;> first | rfl | (exfalso; omega)
theorem spanN_lo (c : Nat) (h : 1 < sizeN c) : (spanN c).2 = (loN c,hiN c) := by
 unfold sizeN at h; unfold spanN loN hiN
 (repeat' split) <;> first | rfl | (exfalso; omega) | ((repeat' split at h) <;> omega)
theorem spanN_lt (c : Nat) : (spanN c).2.1 < 256 ∧ (spanN c).2.2 < 256 := by
 unfold spanN; (repeat' split) <;> simp
end Go.Proofs.YtjjnmefihdjglaaGreat
namespace Go.Proofs.YtjjnmefihdjglaaGreat
open Go.RowKit
theorem size_any (c : Nat) (w : World) (h1 : c < 256) :
  Calls Tryz.prog 142 #[.int .u8 c] w fun e w' => e = .returned (.int .i64 (sizeN c)) ∧ w = w' := by
 go_enter Tryz.func142,Tryz.ntmps142
 go_wp2
 all_goals (go_ret; unfold sizeN; refine ⟨?_,rfl⟩; congr 2; (repeat' split) <;> first | rfl | omega)
theorem second_any (c : Nat) (w : World) :
  Calls Tryz.prog 143 #[.int .u8 c] w fun e w' => e = .returned (.tuple #[.int .u8 (loN c),.int .u8 (hiN c)]) ∧ w = w' := by
 go_enter Tryz.func143,Tryz.ntmps143
 go_wp2
 all_goals (go_ret2; unfold loN hiN; refine ⟨?_,rfl⟩)
 all_goals (simp only [beq_iff_eq,beq_eq_false_iff_ne] at *)
 all_goals (repeat (rw [if_pos (by omega)] <;> skip))
 all_goals (repeat rw [if_neg (by omega)])
 all_goals (repeat rw [if_pos (by omega)])
 all_goals (repeat rw [if_neg (by omega)])
 all_goals rfl
theorem low7 (c : Nat) (h : c < 128) : wrap32 (bits BinOp.and IntKind.u8 (c : Int) 127) = ((headN 1 c : Nat) : Int) := by
 have H : ∀ x : Fin 128,wrap32 (bits BinOp.and IntKind.u8 ((x.val : Nat) : Int) 127) = ((headN 1 x.val : Nat) : Int) := by decide +kernel
 exact H ⟨c,h⟩
theorem lt_of_size1 {c : Nat} (h : sizeN c = 1) : c < 128 := by
 unfold sizeN at h
 (repeat' split at h) <;> first | omega | contradiction
theorem front_any (s : ByteArray) (i : Nat) (w : World) (hi : i < s.size) (hs : s.size ≤ 9223372036854775807) :
  Calls Tryz.prog 139 #[.string s,.int .i64 i] w fun e w' =>
   e = .returned (.tuple #[.int .i32 (frontL ((bs s).drop i)).1,.int .i64 (frontL ((bs s).drop i)).2.1,.bool (frontL ((bs s).drop i)).2.2]) ∧ Ext w w' := by
 have hc : s[i].toNat < 256 := s[i].toNat_lt
 have HL := Lib.hid (drop_bs s i hi)
 rcases size_cases s[i].toNat with hn | hn | hn | hn | hn
 ·go_enter Tryz.func139,Tryz.ntmps139
  go_wp2_with (go_at_call 142; refine (size_any _ _ hc).mono ?_; rintro e w' ⟨rfl,rfl⟩)
  go_ret3
  rw [HL.out]
  simp [frontL,hn,Ext.refl]
 all_goals
  have HN := Lib.hid hn
  have hlo : loN s[i].toNat < 256 ∧ hiN s[i].toNat < 256 := by unfold loN hiN; constructor <;> (repeat' split) <;> omega
  go_enter Tryz.func139,Tryz.ntmps139
  go_wp2_with (go_at_call 142; refine (size_any _ _ hc).mono ?_; rintro e w' ⟨rfl,rfl⟩)
  go_quiet (fail)
  clear hn
  go_wp2_with (go_at_call 143; refine (second_any _ _).mono ?_; rintro e w' ⟨rfl,rfl⟩)
  go_loop [9,10,11,12] (fun r lo hi k => ∃ k' r' lo' hi' : Nat,1 ≤ k' ∧ k' ≤ sizeN s[i].toNat ∧ i + k' ≤ s.size ∧ lo' < 256 ∧ hi' < 256 ∧ ((k' = 1 ∧ r' < 128) ∨ (k' = 2 ∧ r' < 8192) ∨ (k' = 3 ∧ r' < 524288) ∨ (k' = 4 ∧ r' < 33554432)) ∧ r = .int .i32 r' ∧ lo = .int .u8 lo' ∧ hi = .int .u8 hi' ∧ k = .int .i64 k' ∧ frontGo (sizeN s[i].toNat - k') k' lo' hi' ((bs s).drop (i + k')) r' = frontL ((bs s).drop i)) (fun _ _ _ k => 5 - (intOf k).toNat)
  case atStart =>
   refine ⟨1,headN (sizeN s[i].toNat) s[i].toNat,_,_,by omega,by rw [HN.out]; omega,by omega,hlo.1,hlo.2,Or.inl ⟨rfl,?_⟩,vI ?_,rfl,rfl,rfl,?_⟩
   ·rw [HN.out]; simp [headN]; omega
   ·rw [HN.out]; first | (simp [headN]; done) | exact low7 _ (lt_of_size1 HN.out)
   ·rw [HL.out]; simp [frontL,HN.out]
  case round =>
   obtain ⟨k',r',lo',hi',g1,g2,g3,g4,g5,g6,rfl,rfl,rfl,rfl,g7⟩ := hrel
   have G7 := Lib.hid g7
   rw [HN.out] at g2
   clear g7
   by_cases hk : k' < sizeN s[i].toNat
   ·rw [HN.out] at hk
    try (exfalso; omega)
    all_goals
     by_cases hin : i + k' < s.size
     ·have HD := Lib.hid (drop_bs s (i + k') hin)
      have hd := s[i + k'].toNat_lt
      by_cases hlo : s[i + k'].toNat < lo'
      ·go_wp2_with fail
       go_ret3
       refine ⟨ret3 (vI ?_) (vI ?_) (vB ?_),?_⟩
       all_goals try (rw [← G7.out,HD.out,frontGo_bad (by rw [HN.out]; omega) _ _ _ _ _ (by omega)])
       all_goals try rfl
       all_goals exact ((Ext.refl _).alloc _).drewN _
      ·by_cases hhi : hi' < s[i + k'].toNat
       ·go_wp2_with fail
        go_ret3
        refine ⟨ret3 (vI ?_) (vI ?_) (vB ?_),?_⟩
        all_goals try (rw [← G7.out,HD.out,frontGo_bad (by rw [HN.out]; omega) _ _ _ _ _ (by omega)])
        all_goals try rfl
        all_goals exact ((Ext.refl _).alloc _).drewN _
       ·go_wp2_with fail
        go_round
        case rel =>
         refine ⟨k' + 1,r' * 64 + s[i + k'].toNat % 64,128,191,by omega,by rw [HN.out]; omega,by omega,by omega,by omega,by omega,vI (by omega),rfl,rfl,vI (by omega),?_⟩
         rw [← G7.out,HD.out,frontGo_ok (by rw [HN.out]; omega) _ _ _ _ _ (by omega)]
         rfl
        case measure => simp [intOf]; omega
     ·have HD := Lib.hid (drop_bs_nil s (i + k') (by omega))
      go_wp2_with fail
      go_ret3
      refine ⟨ret3 (vI ?_) (vI ?_) (vB ?_),?_⟩
      all_goals try (rw [← G7.out,HD.out,frontGo_nil (by rw [HN.out]; omega)])
      all_goals try rfl
      all_goals exact ((Ext.refl _).alloc _).drewN _
   ·rw [HN.out] at hk
    go_wp2_with fail
    go_ret3
    obtain rfl : k' = sizeN s[i].toNat := by rw [HN.out]; omega
    refine ⟨ret3 (vI ?_) (vI ?_) (vB ?_),?_⟩
    all_goals try (rw [← G7.out,Nat.sub_self,frontGo_end])
    all_goals try rfl
    ·rw [HN.out]; rfl
    all_goals exact ((Ext.refl _).alloc _).drewN _
theorem walk_any (s : ByteArray) (w : World) (hs : s.size ≤ 9223372036854775807) :
  Calls Tryz.prog 128 #[.string s] w fun e w' =>
   e = .returned (.tuple #[.int .i64 (walkL (bs s)).1,.int .i64 (walkL (bs s)).2]) ∧ Ext w w' := by
 go_enter Tryz.func128,Tryz.ntmps128
 go_wp2_with fail
 go_loopw [4,5] (fun c p wr => ∃ c' p' f : Nat,p' ≤ s.size ∧ c' ≤ p' ∧ s.size ≤ p' + f ∧ c = .int .i64 c' ∧ p = .int .i64 p' ∧ Hid (walkGo f c' p' ((bs s).drop p') = walkL (bs s)) ∧ Ext w wr) (fun _ p _ => s.size - (intOf p).toNat)
 case atStart => exact ⟨0,0,(bs s).length,by omega,by omega,by rw [length_bs]; omega,rfl,rfl,rfl,Ext.refl _⟩
 case round =>
  obtain ⟨c',p',f,g1,g2,g3,rfl,rfl,g4,hx⟩ := hrel
  by_cases hp : p' < s.size
  ·have HD := Lib.hid (drop_bs s p' hp)
   have hb := frontL_bounds ((bs s).drop p')
   rw [List.length_drop,length_bs] at hb
   go_wp2_with fail
   refine (front_any s p' _ hp hs).mono ?_
   rintro e w1 ⟨rfl,hx1⟩
   cases hk : (frontL ((bs s).drop p')).2.2
   ·have HB := Lib.hid hk
    go_wp2_with fail
    go_ret2
    have hg := g4
    unfold Hid at hg
    rw [HD.out] at hg HB ⊢
    rw [walkGo_bad _ _ (by omega) HB.out] at hg
    rw [← hg]
    exact ⟨ret2 rfl (vI (by simp)),hx.trans hx1⟩
   ·have HB := Lib.hid hk
    have h1 := hb.2.2 hk
    clear hk
    go_wp2_with fail
    go_roundw
    case rel =>
     have hg := g4
     unfold Hid at hg
     rw [HD.out,walkGo_ok _ _ (by omega) (by rw [← HD.out]; exact HB.out),← HD.out,List.drop_drop] at hg
     exact ⟨c' + 1,p' + (frontL ((bs s).drop p')).2.1,f - 1,by omega,by omega,by omega,vI (by omega),vI (by omega),hg,hx.trans hx1⟩
    case measure => simp [intOf]; omega
  ·have HD := Lib.hid (drop_bs_nil s p' (by omega))
   go_wp2_with fail
   go_ret2
   have hg := g4
   unfold Hid at hg
   rw [HD.out,walkGo_nil] at hg
   rw [← hg]
   exact ⟨rfl,hx⟩
theorem Bad_any (s : ByteArray) (w : World) (hs : s.size ≤ 9223372036854775807) :
  Calls Tryz.prog 106 #[.string s] w fun e w' => e = .returned (.int .i64 (badL (bs s))) ∧ Ext w w' := by
 go_enter Tryz.func106,Tryz.ntmps106
 go_wp2_with fail
 refine (walk_any s _ hs).mono ?_
 rintro e w1 ⟨rfl,hx⟩
 go_wp2_with fail
 go_ret
 exact ⟨rfl,hx⟩
theorem span_any (c : Nat) (w : World) (_h : c < 256) :
  Calls Tryz.prog 136 #[.int .u8 c] w fun e w' => e = .returned (.tuple #[.int .i64 (spanN c).1,.int .u8 (spanN c).2.1,.int .u8 (spanN c).2.2]) ∧ w = w' := by
 go_enter Tryz.func136,Tryz.ntmps136
 go_wp2
 all_goals go_ret3
 all_goals (simp only [beq_iff_eq,beq_eq_false_iff_ne] at *)
 all_goals (refine ⟨?_,trivial⟩; simp (disch := omega) only [spanN,if_pos,if_neg]; rfl)
theorem Front_any (s : ByteArray) (i : Nat) (w : World) (hi : i < s.size) (hs : s.size ≤ 9223372036854775807) :
  Calls Tryz.prog 123 #[.string s,.int .i64 i] w fun e w' =>
   e = .returned (.tuple #[.int .i64 (frontL ((bs s).drop i)).2.1,.bool (frontL ((bs s).drop i)).2.2]) ∧ w = w' := by
 have hc : s[i].toNat < 256 := s[i].toNat_lt
 have HL := Lib.hid (drop_bs s i hi)
 have HS := Lib.hid (spanN_size s[i].toNat)
 have hlt := spanN_lt s[i].toNat
 by_cases h0 : sizeN s[i].toNat = 0
 ·have h0' : (((spanN s[i].toNat).1 : Int) == 0) = true := by rw [HS.out,h0]; rfl
  have H0 := Lib.hid h0
  clear h0
  go_enter Tryz.func123,Tryz.ntmps123
  go_wp2_with (go_at_call 136; refine (span_any _ _ hc).mono ?_; rintro e w' ⟨rfl,rfl⟩)
  go_ret2
  rw [HL.out]
  simp [frontL,H0.out]
 ·have h0' : (((spanN s[i].toNat).1 : Int) == 0) = false := by rw [HS.out]; simpa using h0
  have hle : (spanN s[i].toNat).1 ≤ 4 := by rw [HS.out]; have := size_cases s[i].toNat; omega
  have HF : Hid (frontL ((bs s).drop i) = frontGo ((spanN s[i].toNat).1 - 1) 1 (loN s[i].toNat) (hiN s[i].toNat) ((bs s).drop (i + 1)) (headN (sizeN s[i].toNat) s[i].toNat)) := by
   unfold Hid; rw [HL.out,frontL,if_neg h0,HS.out]
  have HB : Hid (1 < (spanN s[i].toNat).1 → (spanN s[i].toNat).2.1 = loN s[i].toNat ∧ (spanN s[i].toNat).2.2 = hiN s[i].toNat) := fun h => by
   have := spanN_lo s[i].toNat (by rw [HS.out] at h; exact h)
   rw [this]; exact ⟨rfl,rfl⟩
  have h1 : 1 ≤ (spanN s[i].toNat).1 := by rw [HS.out]; omega
  clear h0
  go_enter Tryz.func123,Tryz.ntmps123
  go_wp2_with (go_at_call 136; refine (span_any _ _ hc).mono ?_; rintro e w' ⟨rfl,rfl⟩)
  go_loop [7,8,9] (fun lo hi k => ∃ k' r' lo' hi' : Nat,1 ≤ k' ∧ k' ≤ (spanN s[i].toNat).1 ∧ i + k' ≤ s.size ∧ lo' < 256 ∧ hi' < 256 ∧ lo = .int .u8 lo' ∧ hi = .int .u8 hi' ∧ k = .int .i64 k' ∧ Hid (frontL ((bs s).drop i) = frontGo ((spanN s[i].toNat).1 - k') k' lo' hi' ((bs s).drop (i + k')) r')) (fun _ _ k => 5 - (intOf k).toNat)
  case atStart =>
   refine ⟨1,headN (sizeN s[i].toNat) s[i].toNat,_,_,by omega,h1,by omega,hlt.1,hlt.2,rfl,rfl,rfl,?_⟩
   unfold Hid
   rw [HF.out]
   by_cases hg : 1 < (spanN s[i].toNat).1
   ·rw [(HB.out hg).1,(HB.out hg).2]
   ·rw [show (spanN s[i].toNat).1 - 1 = 0 from by omega,frontGo_end,frontGo_end]
  case round =>
   obtain ⟨k',r',lo',hi',g1,g2,g3,g4,g5,rfl,rfl,rfl,G⟩ := hrel
   by_cases hk : k' < (spanN s[i].toNat).1
   ·by_cases hin : i + k' < s.size
    ·have HD := Lib.hid (drop_bs s (i + k') hin)
     have hd := s[i + k'].toNat_lt
     by_cases hlo : s[i + k'].toNat < lo'
     ·go_wp2_with fail
      go_ret2
      rw [G.out,HD.out,frontGo_bad (by omega) _ _ _ _ _ (by omega)]
      exact ⟨rfl,rfl⟩
     ·by_cases hhi : hi' < s[i + k'].toNat
      ·go_wp2_with fail
       go_ret2
       rw [G.out,HD.out,frontGo_bad (by omega) _ _ _ _ _ (by omega)]
       exact ⟨rfl,rfl⟩
      ·go_wp2_with fail
       go_round
       case rel =>
        refine ⟨k' + 1,r' * 64 + s[i + k'].toNat % 64,128,191,by omega,by omega,by omega,by omega,by omega,rfl,rfl,vI (by omega),?_⟩
        unfold Hid
        rw [G.out,HD.out,frontGo_ok (by omega) _ _ _ _ _ (by omega)]
        rfl
       case measure => simp [intOf]; omega
    ·have HD := Lib.hid (drop_bs_nil s (i + k') (by omega))
     have hne : ((k' : Int) == ((spanN s[i].toNat).1 : Int)) = false := by simp; omega
     go_wp2_with fail
     go_ret2
     rw [G.out,HD.out,frontGo_nil (by omega)]
     exact ⟨ret2 rfl (vB rfl),rfl⟩
   ·have hne : ((k' : Int) == ((spanN s[i].toNat).1 : Int)) = true := by simp; omega
    have HK : Hid ((spanN s[i].toNat).1 - k' = 0) := by unfold Hid; omega
    go_wp2_with fail
    go_ret2
    rw [G.out,HK.out,frontGo_end]
    exact ⟨ret2 rfl (vB rfl),rfl⟩
theorem rBad_any (s : ByteArray) (w : World) (hs : s.size ≤ 9223372036854775807) :
  Calls Tryz.prog 97 #[.string s] w fun e w' => e = .returned (.int .i64 (badL (bs s))) ∧ Ext w w' := by
 go_enter Tryz.func97,Tryz.ntmps97
 go_wp2_with fail
 go_loop [3] (fun p => ∃ c' p' f : Nat,p' ≤ s.size ∧ s.size ≤ p' + f ∧ p = .int .i64 p' ∧ Hid (walkGo f c' p' ((bs s).drop p') = walkL (bs s))) (fun p => s.size - (intOf p).toNat)
 case atStart => exact ⟨0,0,(bs s).length,by omega,by rw [length_bs]; omega,rfl,rfl⟩
 case round =>
  obtain ⟨c',p',f,g1,g3,rfl,g4⟩ := hrel
  by_cases hp : p' < s.size
  ·have HD := Lib.hid (drop_bs s p' hp)
   have hb := frontL_bounds ((bs s).drop p')
   rw [List.length_drop,length_bs] at hb
   go_wp2_with fail
   refine (Front_any s p' _ hp hs).mono ?_
   rintro e w1 ⟨rfl,rfl⟩
   cases hk : (frontL ((bs s).drop p')).2.2
   ·have HB := Lib.hid hk
    go_wp2_with fail
    go_ret
    have hg := g4
    unfold Hid at hg
    rw [HD.out] at hg HB ⊢
    rw [walkGo_bad _ _ (by omega) HB.out] at hg
    rw [badL,← hg]
    exact ⟨retI (by simp),Ext.refl _⟩
   ·have HB := Lib.hid hk
    have h1 := hb.2.2 hk
    clear hk
    go_wp2_with fail
    go_round
    case rel =>
     have hg := g4
     unfold Hid at hg
     rw [HD.out,walkGo_ok _ _ (by omega) (by rw [← HD.out]; exact HB.out),← HD.out,List.drop_drop] at hg
     exact ⟨c' + 1,p' + (frontL ((bs s).drop p')).2.1,f - 1,by omega,by omega,vI (by omega),hg⟩
    case measure => simp [intOf]; omega
  ·have HD := Lib.hid (drop_bs_nil s p' (by omega))
   go_wp2_with fail
   go_ret
   have hg := g4
   unfold Hid at hg
   rw [HD.out,walkGo_nil] at hg
   rw [badL,← hg]
   exact ⟨rfl,Ext.refl _⟩
end Go.Proofs.YtjjnmefihdjglaaGreat
namespace Go.Proofs.YtjjnmefihdjglaaGreat
open Go.Shelf Go.RowKit
def lays264_ren : Go.Shelf.Ren := ⟨fun | 264 => 144 | n => n,fun | 53 => 136 | 46 => 148 | n => n,fun | n => n⟩
theorem lays264 : Go.Proofs.Lays.n264 Tryz.prog lays264_ren := {
 mixed := by kernel_rfl
 f264 := Tryz.func144.trans (congrArg some (by kernel_rfl))
 t46 := Tryz.underlying148
 a46 := Tryz.isAgg148
 z46 := Tryz.sizeOf148
 v46 := Tryz.zeroValue148
 t53 := Tryz.underlying136
 a53 := Tryz.isAgg136
 z53 := Tryz.sizeOf136
 v53 := Tryz.zeroValue136 }
open Go.RowKit Go.Lib in
theorem bits_Mul64 (x y : Nat) (hx : x < 18446744073709551616) (hy : y < 18446744073709551616) (w : World) :
  Calls Tryz.prog 144 #[.int .u64 x,.int .u64 y] w fun e w' => e = .returned (.tuple #[.int .u64 ((x * y / 18446744073709551616 : Nat) : Int),.int .u64 ((x * y % 18446744073709551616 : Nat) : Int)]) ∧ w' = w := Any.bits_Mul64 lays264 x y hx hy w
def W64 : Nat := 18446744073709551616
theorem Mul64_at (x y hi lo : Nat) (hx : x < W64) (hy : y < W64) (h : x * y = hi * W64 + lo) (hl : lo < W64) (w : World) :
  Calls Tryz.prog 144 #[.int .u64 x,.int .u64 y] w fun e w' => e = .returned (.tuple #[.int .u64 (hi : Int),.int .u64 (lo : Int)]) ∧ w = w' := by
 have e1 : x * y / 18446744073709551616 = hi := by rw [h]; unfold W64 at *; omega
 have e2 : x * y % 18446744073709551616 = lo := by rw [h]; unfold W64 at *; omega
 refine (bits_Mul64 x y hx hy w).mono ?_
 rintro e w' ⟨he,hw⟩
 rw [e1,e2] at he
 exact ⟨he,hw.symm⟩
theorem Add64_at (x y c s d : Nat) (hc : c ≤ 1) (h : x + y + c = d * W64 + s) (hs : s < W64) (w : World) :
  (callFunc 145 #[.int .u64 x,.int .u64 y,.int .u64 c]).run Tryz.prog w = .ok (.value (.tuple #[.int .u64 (s : Int),.int .u64 (d : Int)])) w := by
 have e1 : (x + y + c) % 18446744073709551616 = s := by rw [h]; unfold W64 at *; omega
 have e2 : (x + y + c) / 18446744073709551616 = d := by rw [h]; unfold W64 at *; omega
 rw [run_callFunc_extern Tryz.func145 (by kernel_rfl) (by kernel_rfl) (by kernel_rfl) (e := add64Entry) (by kernel_rfl),run_add64 x y c (by omega) (by omega) (by omega) (by omega)]
 simp only [Result.andThen]
 rw [← e1,← e2]
 congr 5 <;> omega
end Go.Proofs.YtjjnmefihdjglaaGreat
namespace Go.Proofs.YtjjnmefihdjglaaGreat
def val4 (a b c d : Nat) : Nat := a + b * 18446744073709551616 + c * 340282366920938463463374607431768211456 + d * 6277101735386680763835789423207666416102355444464034512896
def wd (N i : Nat) : Nat := N / 18446744073709551616 ^ i % 18446744073709551616
def W256 : Nat := 115792089237316195423570985008687907853269984665640564039457584007913129639936
theorem wd_lt (N i : Nat) : wd N i < W64 := Nat.mod_lt _ (by decide)
theorem wd0 (N : Nat) : wd N 0 = N % 18446744073709551616 := by unfold wd; rw [Nat.pow_zero,Nat.div_one]
theorem wd1 (N : Nat) : wd N 1 = N / 18446744073709551616 % 18446744073709551616 := by unfold wd; rw [Nat.pow_one]
theorem wd2 (N : Nat) : wd N 2 = N / 340282366920938463463374607431768211456 % 18446744073709551616 := by
 unfold wd; rw [show (18446744073709551616 : Nat) ^ 2 = 340282366920938463463374607431768211456 from by decide]
theorem wd3 (N : Nat) : wd N 3 = N / 6277101735386680763835789423207666416102355444464034512896 % 18446744073709551616 := by
 unfold wd; rw [show (18446744073709551616 : Nat) ^ 3 = 6277101735386680763835789423207666416102355444464034512896 from by decide]
theorem val4_wd (N : Nat) (h : N < W256) : val4 (wd N 0) (wd N 1) (wd N 2) (wd N 3) = N := by
 rw [wd0,wd1,wd2,wd3]; unfold val4 W256 at *; omega
theorem wd_val4 {a b c d : Nat} (ha : a < W64) (hb : b < W64) (hc : c < W64) (hd : d < W64) :
  wd (val4 a b c d) 0 = a ∧ wd (val4 a b c d) 1 = b ∧ wd (val4 a b c d) 2 = c ∧ wd (val4 a b c d) 3 = d := by
 rw [wd0,wd1,wd2,wd3]; unfold val4 W64 at *
 refine ⟨?_,?_,?_,?_⟩ <;> omega
theorem val4_lt {a b c d : Nat} (ha : a < W64) (hb : b < W64) (hc : c < W64) (hd : d < W64) : val4 a b c d < W256 := by
 unfold val4 W64 W256 at *; omega
theorem expand4 (a b c d n X Y Z : Nat) : (a + b * X + c * Y + d * Z) * n = a * n + b * n * X + c * n * Y + d * n * Z := by
 rw [Nat.add_mul,Nat.add_mul,Nat.add_mul,Nat.mul_right_comm b,Nat.mul_right_comm c,Nat.mul_right_comm d]
theorem times_arith {a b c d n a1 a0 b1 b0 c1 c0 d1 d0 s0 s1 s2 s3 k0 k1 k2 k3 : Nat}
  (ha : a * n = a1 * W64 + a0) (hb : b * n = b1 * W64 + b0) (hc : c * n = c1 * W64 + c0) (hd : d * n = d1 * W64 + d0)
  (e0 : a0 + 0 + 0 = k0 * W64 + s0) (e1 : b0 + (a1 + k0) + 0 = k1 * W64 + s1) (e2 : c0 + (b1 + k1) + 0 = k2 * W64 + s2) (e3 : d0 + (c1 + k2) + 0 = k3 * W64 + s3) :
  val4 a b c d * n = val4 s0 s1 s2 s3 + (d1 + k3) * W256 := by
 have h : val4 a b c d * n = a * n + b * n * 18446744073709551616 + c * n * 340282366920938463463374607431768211456 + d * n * 6277101735386680763835789423207666416102355444464034512896 := by
  exact expand4 a b c d n _ _ _
 rw [h,ha,hb,hc,hd]
 unfold val4 W64 W256 at *; omega
end Go.Proofs.YtjjnmefihdjglaaGreat
namespace Go.Proofs.YtjjnmefihdjglaaGreat
open Go.RowKit
def wideV (N : Nat) : Value := .agg #[.int .u64 (wd N 0 : Int),.int .u64 (wd N 1 : Int),.int .u64 (wd N 2 : Int),.int .u64 (wd N 3 : Int)]
theorem wideV_val4 {a b c d : Nat} (ha : a < W64) (hb : b < W64) (hc : c < W64) (hd : d < W64) : wideV (val4 a b c d) = .agg #[.int .u64 (a : Int),.int .u64 (b : Int),.int .u64 (c : Int),.int .u64 (d : Int)] := by
 obtain ⟨h0,h1,h2,h3⟩ := wd_val4 ha hb hc hd
 unfold wideV; rw [h0,h1,h2,h3]
theorem of_any (n : Nat) (w : World) (hn : n < W64) :
  Calls Tryz.prog 132 #[.int .u64 n] w fun e w' => e = .returned (wideV n) ∧ Ext w w' := by
 have hv : wideV n = .agg #[.int .u64 (n : Int),.int .u64 0,.int .u64 0,.int .u64 0] := by
  have := wideV_val4 (a := n) (b := 0) (c := 0) (d := 0) hn (by decide) (by decide) (by decide)
  rw [show val4 n 0 0 0 = n from by unfold val4; omega] at this
  exact this
 have HV := Lib.hid hv
 clear hv
 go_enter Tryz.func132,Tryz.ntmps132
 go_wp2
 rw [HV.out]
 exact bodyPost_ret (v := .agg #[.int .u64 (n : Int),.int .u64 0,.int .u64 0,.int .u64 0]) (by simp [results,Tryz.results132,go_sem]) rfl ⟨rfl,(Ext.refl _).alloc _⟩
theorem abs_any (m : Int) (w : World) (h : -9223372036854775808 ≤ m ∧ m ≤ 9223372036854775807) :
  Calls Tryz.prog 133 #[.int .i64 m] w fun e w' => e = .returned (.int .u64 (m.natAbs : Int)) ∧ w = w' := by
 by_cases h0 : m < 0
 ·go_enter Tryz.func133,Tryz.ntmps133
  go_wp2
  go_ret
  exact ⟨retI (by rw [IntKind.wrap_u64,IntKind.wrap_u64]; omega),rfl⟩
 ·go_enter Tryz.func133,Tryz.ntmps133
  go_wp2
  go_ret
  exact ⟨retI (by omega),rfl⟩
theorem split64 (n : Nat) : ∃ q r : Nat,n = q * W64 + r ∧ r < W64 := ⟨n / W64,n % W64,by unfold W64; omega,Nat.mod_lt _ (by decide)⟩
theorem mul_hi {a n hi lo : Nat} (ha : a < W64) (hn : n < W64) (h : a * n = hi * W64 + lo) : hi + 2 ≤ W64 := by
 have h1 : a * n ≤ (W64 - 1) * (W64 - 1) := Nat.mul_le_mul (by omega) (by omega)
 have h2 : (W64 - 1) * (W64 - 1) = (W64 - 2) * W64 + 1 := by decide
 have h3 : hi * W64 < (W64 - 1) * W64 := by
  have h4 : (W64 - 1) * W64 = (W64 - 2) * W64 + W64 := by decide
  have h5 : W64 = 18446744073709551616 := rfl
  omega
 have := Nat.lt_of_mul_lt_mul_right h3
 have h5 : W64 = 18446744073709551616 := rfl
 omega
theorem carry_le {x y k s : Nat} (hx : x < W64) (hy : y < W64) (h : x + y + 0 = k * W64 + s) : k ≤ 1 := by unfold W64 at *; omega
theorem times_any (N n : Nat) (w : World) (hN : N < W256) (hn : n < W64) (hp : N * n < W256) :
  Calls Tryz.prog 140 #[wideV N,.int .u64 n] w fun e w' => e = .returned (wideV (N * n)) ∧ Ext w w' := by
 have hv := val4_wd N hN
 have l0 := wd_lt N 0
 have l1 := wd_lt N 1
 have l2 := wd_lt N 2
 have l3 := wd_lt N 3
 have hW : wideV N = .agg #[.int .u64 (wd N 0 : Int),.int .u64 (wd N 1 : Int),.int .u64 (wd N 2 : Int),.int .u64 (wd N 3 : Int)] := rfl
 rw [hW]
 clear hW
 generalize wd N 0 = a at *
 generalize wd N 1 = b at *
 generalize wd N 2 = c at *
 generalize wd N 3 = d at *
 obtain ⟨a1,a0,ha,ha0⟩ := split64 (a * n)
 obtain ⟨b1,b0,hb,hb0⟩ := split64 (b * n)
 obtain ⟨c1,c0,hc,hc0⟩ := split64 (c * n)
 obtain ⟨d1,d0,hd,hd0⟩ := split64 (d * n)
 have ta := mul_hi l0 hn ha
 have tb := mul_hi l1 hn hb
 have tc := mul_hi l2 hn hc
 have td := mul_hi l3 hn hd
 obtain ⟨k0,s0,e0,hs0⟩ := split64 (a0 + 0 + 0)
 have hk0 := carry_le ha0 (show 0 < W64 by decide) e0
 obtain ⟨k1,s1,e1,hs1⟩ := split64 (b0 + (a1 + k0) + 0)
 have hk1 := carry_le hb0 (show a1 + k0 < W64 by omega) e1
 obtain ⟨k2,s2,e2,hs2⟩ := split64 (c0 + (b1 + k1) + 0)
 have hk2 := carry_le hc0 (show b1 + k1 < W64 by omega) e2
 obtain ⟨k3,s3,e3,hs3⟩ := split64 (d0 + (c1 + k2) + 0)
 have hk3 := carry_le hd0 (show c1 + k2 < W64 by omega) e3
 have HT := Lib.hid (times_arith ha hb hc hd e0 e1 e2 e3)
 have M0 := Mul64_at a n a1 a0 l0 hn ha ha0
 have M1 := Mul64_at b n b1 b0 l1 hn hb hb0
 have M2 := Mul64_at c n c1 c0 l2 hn hc hc0
 have M3 := Mul64_at d n d1 d0 l3 hn hd hd0
 have A0 := Add64_at a0 0 0 s0 k0 (by omega) e0 hs0
 have A1 := Add64_at b0 (a1 + k0) 0 s1 k1 (by omega) e1 hs1
 have A2 := Add64_at c0 (b1 + k1) 0 s2 k2 (by omega) e2 hs2
 have A3 := Add64_at d0 (c1 + k2) 0 s3 k3 (by omega) e3 hs3
 have hres : Hid (wideV (N * n) = .agg #[.int .u64 (s0 : Int),.int .u64 (s1 : Int),.int .u64 (s2 : Int),.int .u64 (s3 : Int)]) := by
  have h := HT.out
  rw [hv] at h
  have hz : d1 + k3 = 0 := by
   have := val4_lt hs0 hs1 hs2 hs3
   unfold W256 at *; omega
  rw [hz,Nat.zero_mul,Nat.add_zero] at h
  unfold Hid
  rw [h,wideV_val4 hs0 hs1 hs2 hs3]
 have HV := Lib.hid hv
 clear hv ha hb hc hd e0 e1 e2 e3 ha0 hb0 hc0 hd0 hs0 hs1 hs2 hs3
 push_cast at A0 A1 A2 A3
 unfold W64 at *
 go_enter Tryz.func140,Tryz.ntmps140
 go_wp2_with fail
 refine wp_loop_rounds 5 ?_
 rw [rounds_succ]
 go_wp2_with fail
 refine (M0 _).mono ?_
 rintro e w1 ⟨rfl,rfl⟩
 go_wp2_with fail
 rw [rounds_succ]
 go_wp2_with fail
 refine (M1 _).mono ?_
 rintro e w1 ⟨rfl,rfl⟩
 go_wp2_with fail
 rw [rounds_succ]
 go_wp2_with fail
 refine (M2 _).mono ?_
 rintro e w1 ⟨rfl,rfl⟩
 go_wp2_with fail
 rw [rounds_succ]
 go_wp2_with fail
 refine (M3 _).mono ?_
 rintro e w1 ⟨rfl,rfl⟩
 go_wp2_with fail
 rw [rounds_succ]
 go_wp2_with fail
 rw [hres.out]
 exact bodyPost_ret (v := .agg #[.int .u64 (s0 : Int),.int .u64 (s1 : Int),.int .u64 (s2 : Int),.int .u64 (s3 : Int)]) (by simp [results,Tryz.results140,go_sem]) rfl ⟨rfl,((Ext.refl _).alloc _).alloc _⟩
def cmpN (A B : Nat) : Int := if A < B then -1 else if A > B then 1 else 0
theorem cmpN_lt {A B : Nat} (h : A < B) : cmpN A B = -1 := if_pos h
theorem cmpN_gt {A B : Nat} (h : A > B) : cmpN A B = 1 := by unfold cmpN; rw [if_neg (by omega),if_pos h]
theorem cmpN_eq (A : Nat) : cmpN A A = 0 := by unfold cmpN; rw [if_neg (by omega),if_neg (by omega)]
theorem compare_any (A B : Nat) (w : World) (hA : A < W256) (hB : B < W256) :
  Calls Tryz.prog 135 #[wideV A,wideV B] w fun e w' => e = .returned (.int .i64 (cmpN A B)) ∧ Ext w w' := by
 have hv := val4_wd A hA
 have l0 := wd_lt A 0
 have l1 := wd_lt A 1
 have l2 := wd_lt A 2
 have l3 := wd_lt A 3
 have hv' := val4_wd B hB
 have m0 := wd_lt B 0
 have m1 := wd_lt B 1
 have m2 := wd_lt B 2
 have m3 := wd_lt B 3
 have hW : wideV A = .agg #[.int .u64 (wd A 0 : Int),.int .u64 (wd A 1 : Int),.int .u64 (wd A 2 : Int),.int .u64 (wd A 3 : Int)] := rfl
 have hW' : wideV B = .agg #[.int .u64 (wd B 0 : Int),.int .u64 (wd B 1 : Int),.int .u64 (wd B 2 : Int),.int .u64 (wd B 3 : Int)] := rfl
 rw [hW,hW']
 clear hW hW'
 generalize wd A 0 = a at *
 generalize wd A 1 = b at *
 generalize wd A 2 = c at *
 generalize wd A 3 = d at *
 generalize wd B 0 = x at *
 generalize wd B 1 = y at *
 generalize wd B 2 = z at *
 generalize wd B 3 = t at *
 have hcmp : Hid (cmpN A B = cmpN (val4 a b c d) (val4 x y z t)) := Lib.hid (by rw [hv,hv'])
 clear hv hv'
 by_cases c3lt : d < t
 ·have H := Lib.hid (hcmp.out.trans (cmpN_lt (by unfold val4 W64 at *; omega)))
  clear hcmp
  unfold W64 at *
  go_enter Tryz.func135,Tryz.ntmps135
  go_wp2_with fail
  refine wp_loop_rounds 5 ?_
  rw [rounds_succ]
  go_wp2_with fail
  go_quiet (fail)
  go_wp2_with fail
  go_ret
  exact ⟨retI H.out.symm,by repeat (first | apply Ext.drewN | apply Ext.alloc | exact Ext.refl _)⟩
 by_cases c3gt : t < d
 ·have H := Lib.hid (hcmp.out.trans (cmpN_gt (by unfold val4 W64 at *; omega)))
  clear hcmp
  unfold W64 at *
  go_enter Tryz.func135,Tryz.ntmps135
  go_wp2_with fail
  refine wp_loop_rounds 5 ?_
  rw [rounds_succ]
  go_wp2_with fail
  go_quiet (fail)
  go_wp2_with fail
  go_quiet (fail)
  go_wp2_with fail
  go_ret
  exact ⟨retI H.out.symm,by repeat (first | apply Ext.drewN | apply Ext.alloc | exact Ext.refl _)⟩
 obtain rfl : d = t := by omega
 clear c3lt c3gt
 by_cases c2lt : c < z
 ·have H := Lib.hid (hcmp.out.trans (cmpN_lt (by unfold val4 W64 at *; omega)))
  clear hcmp
  unfold W64 at *
  go_enter Tryz.func135,Tryz.ntmps135
  go_wp2_with fail
  refine wp_loop_rounds 5 ?_
  rw [rounds_succ]
  go_wp2_with fail
  go_quiet (fail)
  go_wp2_with fail
  go_quiet (fail)
  go_wp2_with fail
  rw [rounds_succ]
  go_wp2_with fail
  go_quiet (fail)
  go_wp2_with fail
  go_ret
  exact ⟨retI H.out.symm,by repeat (first | apply Ext.drewN | apply Ext.alloc | exact Ext.refl _)⟩
 by_cases c2gt : z < c
 ·have H := Lib.hid (hcmp.out.trans (cmpN_gt (by unfold val4 W64 at *; omega)))
  clear hcmp
  unfold W64 at *
  go_enter Tryz.func135,Tryz.ntmps135
  go_wp2_with fail
  refine wp_loop_rounds 5 ?_
  rw [rounds_succ]
  go_wp2_with fail
  go_quiet (fail)
  go_wp2_with fail
  go_quiet (fail)
  go_wp2_with fail
  rw [rounds_succ]
  go_wp2_with fail
  go_quiet (fail)
  go_wp2_with fail
  go_quiet (fail)
  go_wp2_with fail
  go_ret
  exact ⟨retI H.out.symm,by repeat (first | apply Ext.drewN | apply Ext.alloc | exact Ext.refl _)⟩
 obtain rfl : c = z := by omega
 clear c2lt c2gt
 by_cases c1lt : b < y
 ·have H := Lib.hid (hcmp.out.trans (cmpN_lt (by unfold val4 W64 at *; omega)))
  clear hcmp
  unfold W64 at *
  go_enter Tryz.func135,Tryz.ntmps135
  go_wp2_with fail
  refine wp_loop_rounds 5 ?_
  rw [rounds_succ]
  go_wp2_with fail
  go_quiet (fail)
  go_wp2_with fail
  go_quiet (fail)
  go_wp2_with fail
  rw [rounds_succ]
  go_wp2_with fail
  go_quiet (fail)
  go_wp2_with fail
  go_quiet (fail)
  go_wp2_with fail
  rw [rounds_succ]
  go_wp2_with fail
  go_quiet (fail)
  go_wp2_with fail
  go_ret
  exact ⟨retI H.out.symm,by repeat (first | apply Ext.drewN | apply Ext.alloc | exact Ext.refl _)⟩
 by_cases c1gt : y < b
 ·have H := Lib.hid (hcmp.out.trans (cmpN_gt (by unfold val4 W64 at *; omega)))
  clear hcmp
  unfold W64 at *
  go_enter Tryz.func135,Tryz.ntmps135
  go_wp2_with fail
  refine wp_loop_rounds 5 ?_
  rw [rounds_succ]
  go_wp2_with fail
  go_quiet (fail)
  go_wp2_with fail
  go_quiet (fail)
  go_wp2_with fail
  rw [rounds_succ]
  go_wp2_with fail
  go_quiet (fail)
  go_wp2_with fail
  go_quiet (fail)
  go_wp2_with fail
  rw [rounds_succ]
  go_wp2_with fail
  go_quiet (fail)
  go_wp2_with fail
  go_quiet (fail)
  go_wp2_with fail
  go_ret
  exact ⟨retI H.out.symm,by repeat (first | apply Ext.drewN | apply Ext.alloc | exact Ext.refl _)⟩
 obtain rfl : b = y := by omega
 clear c1lt c1gt
 by_cases c0lt : a < x
 ·have H := Lib.hid (hcmp.out.trans (cmpN_lt (by unfold val4 W64 at *; omega)))
  clear hcmp
  unfold W64 at *
  go_enter Tryz.func135,Tryz.ntmps135
  go_wp2_with fail
  refine wp_loop_rounds 5 ?_
  rw [rounds_succ]
  go_wp2_with fail
  go_quiet (fail)
  go_wp2_with fail
  go_quiet (fail)
  go_wp2_with fail
  rw [rounds_succ]
  go_wp2_with fail
  go_quiet (fail)
  go_wp2_with fail
  go_quiet (fail)
  go_wp2_with fail
  rw [rounds_succ]
  go_wp2_with fail
  go_quiet (fail)
  go_wp2_with fail
  go_quiet (fail)
  go_wp2_with fail
  rw [rounds_succ]
  go_wp2_with fail
  go_quiet (fail)
  go_wp2_with fail
  go_ret
  exact ⟨retI H.out.symm,by repeat (first | apply Ext.drewN | apply Ext.alloc | exact Ext.refl _)⟩
 by_cases c0gt : x < a
 ·have H := Lib.hid (hcmp.out.trans (cmpN_gt (by unfold val4 W64 at *; omega)))
  clear hcmp
  unfold W64 at *
  go_enter Tryz.func135,Tryz.ntmps135
  go_wp2_with fail
  refine wp_loop_rounds 5 ?_
  rw [rounds_succ]
  go_wp2_with fail
  go_quiet (fail)
  go_wp2_with fail
  go_quiet (fail)
  go_wp2_with fail
  rw [rounds_succ]
  go_wp2_with fail
  go_quiet (fail)
  go_wp2_with fail
  go_quiet (fail)
  go_wp2_with fail
  rw [rounds_succ]
  go_wp2_with fail
  go_quiet (fail)
  go_wp2_with fail
  go_quiet (fail)
  go_wp2_with fail
  rw [rounds_succ]
  go_wp2_with fail
  go_quiet (fail)
  go_wp2_with fail
  go_quiet (fail)
  go_wp2_with fail
  go_ret
  exact ⟨retI H.out.symm,by repeat (first | apply Ext.drewN | apply Ext.alloc | exact Ext.refl _)⟩
 obtain rfl : a = x := by omega
 clear c0lt c0gt
 have H := Lib.hid (hcmp.out.trans (cmpN_eq _))
 clear hcmp
 unfold W64 at *
 go_enter Tryz.func135,Tryz.ntmps135
 go_wp2_with fail
 refine wp_loop_rounds 5 ?_
 rw [rounds_succ]
 go_wp2_with fail
 go_quiet (fail)
 go_wp2_with fail
 go_quiet (fail)
 go_wp2_with fail
 rw [rounds_succ]
 go_wp2_with fail
 go_quiet (fail)
 go_wp2_with fail
 go_quiet (fail)
 go_wp2_with fail
 rw [rounds_succ]
 go_wp2_with fail
 go_quiet (fail)
 go_wp2_with fail
 go_quiet (fail)
 go_wp2_with fail
 rw [rounds_succ]
 go_wp2_with fail
 go_quiet (fail)
 go_wp2_with fail
 go_quiet (fail)
 go_wp2_with fail
 rw [rounds_succ]
 go_wp2_with fail
 go_ret
 exact ⟨retI H.out.symm,by repeat (first | apply Ext.drewN | apply Ext.alloc | exact Ext.refl _)⟩
theorem ext_setCell {a w : World} (h : Ext a w) {p : Addr} (hp : a.heap.size ≤ p.block) (u : Value) : Ext a (w.setCell p u) := Below.setCell h hp u
def WideIn (b N : Nat) (w : World) : Prop := w.heap[b]? = some (.cells #[.int .u64 (wd N 0 : Int),.int .u64 (wd N 1 : Int),.int .u64 (wd N 2 : Int),.int .u64 (wd N 3 : Int)] 138 (0,0))
theorem WideIn.ext {b N : Nat} {w w' : World} (h : WideIn b N w) (hk : Ext w w') : WideIn b N w' := (hk.heap (Array.getElem?_eq_some_iff.1 h).1).trans h
theorem WideIn.cells {b N : Nat} {w : World} (h : WideIn b N w) :
  w.cell? ⟨b,0,none⟩ = some (.int .u64 (wd N 0 : Int)) ∧ w.cell? ⟨b,1,none⟩ = some (.int .u64 (wd N 1 : Int)) ∧ w.cell? ⟨b,2,none⟩ = some (.int .u64 (wd N 2 : Int)) ∧ w.cell? ⟨b,3,none⟩ = some (.int .u64 (wd N 3 : Int)) := by
 refine ⟨?_,?_,?_,?_⟩ <;> (rw [Lib.cell_of_heap h]; rfl)
theorem WideIn.free {b N : Nat} {w : World} (h : WideIn b N w) :
  w.frozen? ⟨b,0,none⟩ = false ∧ w.frozen? ⟨b,1,none⟩ = false ∧ w.frozen? ⟨b,2,none⟩ = false ∧ w.frozen? ⟨b,3,none⟩ = false :=
 ⟨Lib.frozen_of_heap h 0,Lib.frozen_of_heap h 1,Lib.frozen_of_heap h 2,Lib.frozen_of_heap h 3⟩
def setWide (w : World) (b N : Nat) : World := (((w.setCell ⟨b,0,none⟩ (.int .u64 (wd N 0 : Int))).setCell ⟨b,1,none⟩ (.int .u64 (wd N 1 : Int))).setCell ⟨b,2,none⟩ (.int .u64 (wd N 2 : Int))).setCell ⟨b,3,none⟩ (.int .u64 (wd N 3 : Int))
theorem WideIn.stored {b N : Nat} {w : World} (h : WideIn b N w) (N' : Nat) : WideIn b N' (setWide w b N') := by
 unfold WideIn at *
 simp [setWide,World.setCell,Array.getElem?_modify,h]
theorem heap_setWide (w : World) (b N k : Nat) (h : k ≠ b) : (setWide w b N).heap[k]? = w.heap[k]? := by
 unfold setWide
 rw [Below.heap_setCell _ _ _ _ h,Below.heap_setCell _ _ _ _ h,Below.heap_setCell _ _ _ _ h,Below.heap_setCell _ _ _ _ h]
theorem ext_setWide {a w : World} (h : Ext a w) {b : Nat} (hb : a.heap.size ≤ b) (N : Nat) : Ext a (setWide w b N) :=
 ext_setCell (ext_setCell (ext_setCell (ext_setCell h hb _) hb _) hb _) hb _
theorem heap_last (w : World) (o : Obj) : (w.alloc o).heap[w.heap.size]? = some o := by
 show (w.heap.push o)[w.heap.size]? = some o
 simp
theorem heap_size_alloc (w : World) (o : Obj) : (w.alloc o).heap.size = w.heap.size + 1 := by
 show (w.heap.push o).size = _
 simp
theorem pow_step {A n k i : Nat} (hn : 0 < n) (h : i ≤ k) (hp : A * n ^ k < W256) : A * n ^ i < W256 :=
 Nat.lt_of_le_of_lt (Nat.mul_le_mul_left _ (Nat.pow_le_pow_right hn h)) hp
theorem power_any (A n k : Nat) (w : World) (hn0 : 0 < n) (hn : n < W64) (hk : k < 1000) (hp : A * n ^ k < W256) :
  Calls Tryz.prog 134 #[wideV A,.int .u64 n,.int .i64 k] w fun e w' => e = .returned (wideV (A * n ^ k)) ∧ Ext w w' := by
 have hA : A < W256 := by simpa using pow_step (i := 0) hn0 (Nat.zero_le _) hp
 unfold wideV
 go_enter Tryz.func134,Tryz.ntmps134
 go_wp2_with fail
 go_loopw [8] (fun i wr => ∃ i' : Nat,i' ≤ k ∧ i = .int .i64 i' ∧ WideIn w.heap.size (A * n ^ i') wr ∧ WideIn (w.heap.size + 1) 0 wr ∧ Ext w wr) (fun i _ => k - (intOf i).toNat)
 case atStart =>
  refine ⟨0,Nat.zero_le _,rfl,?_,?_,((Ext.refl _).alloc _).alloc _⟩
  ·rw [Nat.pow_zero,Nat.mul_one]
   exact (Below.heap_alloc _ _ _ (by rw [heap_size_alloc]; omega)).trans (heap_last _ _)
  ·unfold WideIn
   have z0 : wd 0 0 = 0 := by decide
   have z1 : wd 0 1 = 0 := by decide
   have z2 : wd 0 2 = 0 := by decide
   have z3 : wd 0 3 = 0 := by decide
   rw [z0,z1,z2,z3,← heap_size_alloc w]
   exact heap_last _ _
 case round =>
  obtain ⟨i',hi,rfl,h1,h2,hx⟩ := hrel
  obtain ⟨c0,c1,c2,c3⟩ := h1.cells
  by_cases hlt : i' < k
  ·go_wp2_with fail
   refine (times_any (A * n ^ i') n wr (pow_step hn0 hi hp) hn (by have := pow_step (i := i' + 1) hn0 hlt hp; rwa [Nat.pow_succ,← Nat.mul_assoc] at this)).mono ?_
   rintro e w1 ⟨rfl,x1⟩
   have h1' := h1.ext x1
   have h2' := h2.ext x1
   obtain ⟨d0,d1,d2,d3⟩ := h1'.cells
   obtain ⟨f0,f1,f2,f3⟩ := h1'.free
   clear c0 c1 c2 c3
   unfold wideV
   go_wp2_with fail
   go_roundw
   case rel =>
    refine ⟨i' + 1,hlt,rfl,?_,?_,?_⟩
    ·rw [Nat.pow_succ,← Nat.mul_assoc]; exact h1'.stored _
    ·exact (heap_setWide _ _ _ _ (by omega)).trans h2'
    ·exact ext_setWide (hx.trans x1) (Nat.le_refl _) _
   case measure => simp only [intOf]; omega
  ·obtain rfl : i' = k := by omega
   obtain ⟨d0,d1,d2,d3⟩ := h2.cells
   obtain ⟨f0,f1,f2,f3⟩ := h2.free
   go_wp2_with fail
   refine bodyPost_ret (v := wideV (A * n ^ i')) ?_ rfl ⟨rfl,?_⟩
   ·obtain ⟨e0,e1,e2,e3⟩ := (h2.stored (A * n ^ i')).cells
    change (results Tryz.f134 _).run Tryz.prog (setWide wr (w.heap.size + 1) (A * n ^ i')) = .ok _ (setWide wr (w.heap.size + 1) (A * n ^ i'))
    clear d0 d1 d2 d3 f0 f1 f2 f3 c0 c1 c2 c3
    generalize setWide wr (w.heap.size + 1) (A * n ^ i') = W at *
    simp [results,Tryz.results134,go_sem,e0,e1,e2,e3,wideV]
   ·exact ext_setWide hx (Nat.le_succ _) _
end Go.Proofs.YtjjnmefihdjglaaGreat
