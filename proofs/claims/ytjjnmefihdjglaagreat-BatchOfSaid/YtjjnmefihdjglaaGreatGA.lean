import Derived.Test.YtjjnmefihdjglaaGreatRows
import Derived.WalkKit
import Derived.WalkSpells
import Derived.WalkLawsBesides
import Derived.BigQuiet
import Derived.Deep.QuietTactic
import Derived.Lib.Hide
namespace Go.Proofs.YtjjnmefihdjglaaGreat
open Go.RowKit
def Ext (w w' : World) : Prop := Below w.heap.size w w'
theorem Ext.refl (w : World) : Ext w w := Below.refl _ _
theorem Ext.size {w w' : World} (h : Ext w w') : w.heap.size ≤ w'.heap.size := Below.size h
theorem Ext.trans {a b c : World} (h : Ext a b) (k : Ext b c) : Ext a c := Below.trans h (Below.mono k h.size)
theorem Ext.alloc {a w : World} (h : Ext a w) (o : Obj) : Ext a (w.alloc o) := Below.alloc h h.size o
theorem Ext.drewN {a w : World} (h : Ext a w) (n : Nat) : Ext a (w.drewN n) := Below.trans h ⟨rfl, rfl, rfl, Nat.le_refl _, fun _ _ => rfl⟩
theorem Ext.drew {a w : World} (h : Ext a w) : Ext a w.drew := Below.trans h ⟨rfl, rfl, rfl, Nat.le_refl _, fun _ _ => rfl⟩
theorem Ext.cell {w w' : World} (h : Ext w w') {p : Addr} (hp : p.block < w.heap.size) : w'.cell? p = w.cell? p := Below.cell h hp
theorem Ext.frozen {w w' : World} (h : Ext w w') {p : Addr} (hp : p.block < w.heap.size) : w'.frozen? p = w.frozen? p := Below.frozen h hp
theorem Ext.heap {w w' : World} (h : Ext w w') {k : Nat} (hk : k < w.heap.size) : w'.heap[k]? = w.heap[k]? := Below.block h k hk
theorem ret1 {v v' : Value} (h : v = v') : Ending.returned v = .returned v' := by rw [h]
theorem retI {k : IntKind} {a b : Int} (h : a = b) : Ending.returned (.int k a) = .returned (.int k b) := by rw [h]
theorem retB {a b : Bool} (h : a = b) : Ending.returned (.bool a) = .returned (.bool b) := by rw [h]
theorem ret2 {a a' b b' : Value} (h1 : a = a') (h2 : b = b') : Ending.returned (.tuple #[a, b]) = .returned (.tuple #[a', b']) := by rw [h1, h2]
theorem ret3 {a a' b b' c c' : Value} (h1 : a = a') (h2 : b = b') (h3 : c = c') : Ending.returned (.tuple #[a, b, c]) = .returned (.tuple #[a', b', c']) := by rw [h1, h2, h3]
theorem vI {k : IntKind} {a b : Int} (h : a = b) : Value.int k a = .int k b := by rw [h]
theorem vB {a b : Bool} (h : a = b) : Value.bool a = .bool b := by rw [h]
end Go.Proofs.YtjjnmefihdjglaaGreat
namespace Go.Proofs.YtjjnmefihdjglaaGreat
open Go.RowKit
theorem under_bytes : Tryz.prog.underlying 116 = some (.slice 5) := by kernel_rfl
theorem under_byte : Tryz.prog.underlying 5 = some (.int .u8) := by kernel_rfl
theorem under_string : Tryz.prog.underlying 9 = some .string := by kernel_rfl
theorem conv_new (w : World) (xs : List Int) (c : Nat) :
  (convert 116 9 (.slice (some ⟨w.heap.size, 0, none⟩) xs.length c)).run Tryz.prog (w.alloc (.cells (xs.map (Value.int .u8)).toArray 5)) = .ok (.string (strOfNums xs)) (w.alloc (.cells (xs.map (Value.int .u8)).toArray 5)) := by
 refine run_convert_bytes_arg _ _ _ under_bytes under_byte _ _ _ _ xs rfl ?_ _ under_string
 intro i hi
 have : (w.alloc (.cells (xs.map (Value.int .u8)).toArray 5)).heap[w.heap.size]? = some (.cells (xs.map (Value.int .u8)).toArray 5) := heap_alloc_new w _
 unfold World.cell?
 rw [this]
 simp [List.getElem?_eq_getElem hi, List.getD]
theorem conv1 (w : World) (a : Int) : (convert 116 9 (.slice (some ⟨w.heap.size, 0, none⟩) 1 1)).run Tryz.prog (w.alloc (.cells #[.int .u8 a] 5)) = .ok (.string (strOfNums [a])) (w.alloc (.cells #[.int .u8 a] 5)) := conv_new w [a] 1
theorem conv2 (w : World) (a b : Int) : (convert 116 9 (.slice (some ⟨w.heap.size, 0, none⟩) 2 2)).run Tryz.prog (w.alloc (.cells #[.int .u8 a, .int .u8 b] 5)) = .ok (.string (strOfNums [a, b])) (w.alloc (.cells #[.int .u8 a, .int .u8 b] 5)) := conv_new w [a, b] 2
theorem conv3 (w : World) (a b c : Int) : (convert 116 9 (.slice (some ⟨w.heap.size, 0, none⟩) 3 3)).run Tryz.prog (w.alloc (.cells #[.int .u8 a, .int .u8 b, .int .u8 c] 5)) = .ok (.string (strOfNums [a, b, c])) (w.alloc (.cells #[.int .u8 a, .int .u8 b, .int .u8 c] 5)) := conv_new w [a, b, c] 3
theorem conv4 (w : World) (a b c d : Int) : (convert 116 9 (.slice (some ⟨w.heap.size, 0, none⟩) 4 4)).run Tryz.prog (w.alloc (.cells #[.int .u8 a, .int .u8 b, .int .u8 c, .int .u8 d] 5)) = .ok (.string (strOfNums [a, b, c, d])) (w.alloc (.cells #[.int .u8 a, .int .u8 b, .int .u8 c, .int .u8 d] 5)) := conv_new w [a, b, c, d] 4
end Go.Proofs.YtjjnmefihdjglaaGreat
namespace Go.Proofs.YtjjnmefihdjglaaGreat
def sizeN (c : Nat) : Nat := if c < 128 then 1 else if c < 194 then 0 else if c < 224 then 2 else if c < 240 then 3 else if c < 245 then 4 else 0
def loN (c : Nat) : Nat := if c = 224 then 160 else if c = 240 then 144 else 128
def hiN (c : Nat) : Nat := if c = 237 then 159 else if c = 244 then 143 else 191
def headN (n c : Nat) : Nat := if n = 1 then c % 128 else if n = 2 then c % 32 else if n = 3 then c % 16 else c % 8
def frontGo : (rem k lo hi : Nat) → List Nat → Nat → Nat × Nat × Bool
 | 0, k, _, _, _, r => (r, k, true)
 | _ + 1, k, _, _, [], _ => (0, k, false)
 | rem + 1, k, lo, hi, d :: l, r => if d < lo ∨ hi < d then (0, k, false) else frontGo rem (k + 1) 128 191 l (r * 64 + d % 64)
def frontL : List Nat → Nat × Nat × Bool
 | [] => (0, 0, false)
 | c :: l => if sizeN c = 0 then (0, 0, false) else frontGo (sizeN c - 1) 1 (loN c) (hiN c) l (headN (sizeN c) c)
def bs (s : ByteArray) : List Nat := s.data.toList.map UInt8.toNat
theorem length_bs (s : ByteArray) : (bs s).length = s.size := by simp [bs]
theorem bs_lt (s : ByteArray) : ∀ x ∈ bs s, x < 256 := by
 intro x hx
 simp only [bs, List.mem_map] at hx
 obtain ⟨u, _, rfl⟩ := hx
 exact u.toNat_lt
theorem drop_bs (s : ByteArray) (i : Nat) (h : i < s.size) : (bs s).drop i = s[i].toNat :: (bs s).drop (i + 1) := by
 have hl : i < (bs s).length := by rw [length_bs]; exact h
 rw [List.drop_eq_getElem_cons hl]
 simp [bs]; rfl
theorem drop_bs_nil (s : ByteArray) (i : Nat) (h : s.size ≤ i) : (bs s).drop i = [] := List.drop_eq_nil_of_le (by rw [length_bs]; exact h)
theorem bs_inj {s t : ByteArray} (h : bs s = bs t) : s = t := by
 obtain ⟨⟨l⟩⟩ := s; obtain ⟨⟨m⟩⟩ := t
 simp only [bs] at h
 have : l = m := List.map_inj_right (f := UInt8.toNat) (fun a b e => UInt8.toNat_inj.1 e) |>.1 h
 rw [this]
theorem bs_append (s t : ByteArray) : bs (s ++ t) = bs s ++ bs t := by simp [bs]
theorem size_cases (c : Nat) : sizeN c = 0 ∨ sizeN c = 1 ∨ sizeN c = 2 ∨ sizeN c = 3 ∨ sizeN c = 4 := by
 unfold sizeN; (repeat' split) <;> simp
theorem frontGo_end (k lo hi : Nat) (l : List Nat) (r : Nat) : frontGo 0 k lo hi l r = (r, k, true) := by cases l <;> rfl
theorem frontGo_nil {rem : Nat} (h : 0 < rem) (k lo hi r : Nat) : frontGo rem k lo hi [] r = (0, k, false) := by
 cases rem with
 | zero => omega
 | succ n => rfl
theorem frontGo_bad {rem : Nat} (h : 0 < rem) (k lo hi r : Nat) {d : Nat} (l : List Nat) (hd : d < lo ∨ hi < d) : frontGo rem k lo hi (d :: l) r = (0, k, false) := by
 cases rem with
 | zero => omega
 | succ n => rw [frontGo, if_pos hd]
theorem frontGo_ok {rem : Nat} (h : 0 < rem) (k lo hi r : Nat) {d : Nat} (l : List Nat) (hd : lo ≤ d ∧ d ≤ hi) : frontGo rem k lo hi (d :: l) r = frontGo (rem - 1) (k + 1) 128 191 l (r * 64 + d % 64) := by
 cases rem with
 | zero => omega
 | succ n => rw [frontGo, if_neg (by omega)]; rfl
theorem frontGo_bounds (rem : Nat) : ∀ (k lo hi : Nat) (l : List Nat) (r : Nat), k ≤ (frontGo rem k lo hi l r).2.1 ∧ (frontGo rem k lo hi l r).2.1 ≤ k + l.length ∧ (frontGo rem k lo hi l r).2.1 ≤ k + rem ∧ ((frontGo rem k lo hi l r).2.2 = true → (frontGo rem k lo hi l r).2.1 = k + rem) := by
 induction rem with
 | zero => intro k lo hi l r; rw [frontGo_end]; simp
 | succ n ih =>
   intro k lo hi l r
   cases l with
   | nil => simp [frontGo]
   | cons d l =>
     rw [frontGo]
     split
     ·simp
     ·have := ih (k + 1) 128 191 l (r * 64 + d % 64)
      simp only [List.length_cons]
      refine ⟨by omega, by omega, by omega, fun h => by have := this.2.2.2 h; omega⟩
theorem frontL_bounds (l : List Nat) : (frontL l).2.1 ≤ l.length ∧ (frontL l).2.1 ≤ 4 ∧ ((frontL l).2.2 = true → 1 ≤ (frontL l).2.1) := by
 cases l with
 | nil => simp [frontL]
 | cons c l =>
   rw [frontL]
   split
   ·simp
   ·have := frontGo_bounds (sizeN c - 1) 1 (loN c) (hiN c) l (headN (sizeN c) c)
    have := size_cases c
    simp only [List.length_cons]
    refine ⟨by omega, by omega, fun h => by omega⟩
def walkGo : (fuel count pos : Nat) → List Nat → Int × Int
 | _, count, _, [] => (count, -1)
 | 0, _, pos, _ :: _ => (-1, pos)
 | fuel + 1, count, pos, c :: l => if (frontL (c :: l)).2.2 then walkGo fuel (count + 1) (pos + (frontL (c :: l)).2.1) ((c :: l).drop (frontL (c :: l)).2.1) else (-1, (pos + (frontL (c :: l)).2.1 : Nat))
def walkL (l : List Nat) : Int × Int := walkGo l.length 0 0 l
theorem walkGo_nil (fuel count pos : Nat) : walkGo fuel count pos [] = ((count : Int), (-1 : Int)) := by cases fuel <;> rfl
theorem walkGo_ok {fuel : Nat} (count pos : Nat) {c : Nat} {l : List Nat} (hf : 0 < fuel) (h : (frontL (c :: l)).2.2 = true) :
  walkGo fuel count pos (c :: l) = walkGo (fuel - 1) (count + 1) (pos + (frontL (c :: l)).2.1) ((c :: l).drop (frontL (c :: l)).2.1) := by
 cases fuel with
 | zero => omega
 | succ n => rw [walkGo, if_pos h]; rfl
theorem walkGo_bad {fuel : Nat} (count pos : Nat) {c : Nat} {l : List Nat} (hf : 0 < fuel) (h : (frontL (c :: l)).2.2 = false) :
  walkGo fuel count pos (c :: l) = ((-1 : Int), ((pos + (frontL (c :: l)).2.1 : Nat) : Int)) := by
 cases fuel with
 | zero => omega
 | succ n => rw [walkGo, if_neg (by simp [h])]
theorem walkGo_fuel : ∀ (n f g count pos : Nat) (l : List Nat), l.length ≤ n → l.length ≤ f → l.length ≤ g → walkGo f count pos l = walkGo g count pos l := by
 intro n
 induction n with
 | zero =>
   intro f g count pos l h _ _
   obtain rfl : l = [] := List.length_eq_zero_iff.1 (by omega)
   rw [walkGo_nil, walkGo_nil]
 | succ n ih =>
   intro f g count pos l h hf hg
   cases l with
   | nil => rw [walkGo_nil, walkGo_nil]
   | cons c l =>
     simp only [List.length_cons] at h hf hg
     cases hb : (frontL (c :: l)).2.2 with
     | false => rw [walkGo_bad _ _ (by omega) hb, walkGo_bad _ _ (by omega) hb]
     | true =>
       rw [walkGo_ok _ _ (by omega) hb, walkGo_ok _ _ (by omega) hb]
       have h1 := (frontL_bounds (c :: l)).2.2 hb
       have hl : ((c :: l).drop (frontL (c :: l)).2.1).length ≤ l.length := by rw [List.length_drop, List.length_cons]; omega
       exact ih _ _ _ _ _ (by omega) (by omega) (by omega)
def badL (l : List Nat) : Int := (walkL l).2
def countL (l : List Nat) : Int := (walkL l).1
def nextS (s : ByteArray) (i : Int) : Nat × Nat × Bool :=
 if i < 0 ∨ (s.size : Int) ≤ i then (0, 0, false) else if (frontL ((bs s).drop i.toNat)).2.2 then frontL ((bs s).drop i.toNat) else (0, 0, false)
end Go.Proofs.YtjjnmefihdjglaaGreat
namespace Go.Proofs.YtjjnmefihdjglaaGreat
def isScalar (r : Int) : Bool := decide (0 ≤ r ∧ r ≤ 1114111 ∧ ¬ (55296 ≤ r ∧ r ≤ 57343))
def encL (r : Nat) : List Nat :=
 if r < 128 then [r]
 else if r < 2048 then [192 + r / 64, 128 + r % 64]
 else if r < 65536 then [224 + r / 4096, 128 + r / 64 % 64, 128 + r % 64]
 else [240 + r / 262144, 128 + r / 4096 % 64, 128 + r / 64 % 64, 128 + r % 64]
def ofL (l : List Nat) : ByteArray := ⟨(l.map UInt8.ofNat).toArray⟩
def encS (r : Int) : ByteArray := if isScalar r then ofL (encL r.toNat) else ByteArray.empty
theorem bs_ofL {l : List Nat} (h : ∀ x ∈ l, x < 256) : bs (ofL l) = l := by
 simp only [bs, ofL, List.map_map]
 conv => rhs; rw [← List.map_id l]
 refine List.map_congr_left fun x hx => ?_
 simp [h x hx, Nat.mod_eq_of_lt]
theorem encL_lt (r : Nat) (h : r ≤ 1114111) : ∀ x ∈ encL r, x < 256 := by
 intro x hx
 unfold encL at hx
 (repeat' split at hx) <;> simp at hx <;> omega
theorem frontGo_whole {rem : Nat} (h : 0 < rem) (k lo hi r : Nat) {d : Nat} (l : List Nat) (hw : (frontGo rem k lo hi (d :: l) r).2.2 = true) : frontGo rem k lo hi (d :: l) r = frontGo (rem - 1) (k + 1) 128 191 l (r * 64 + d % 64) := by
 by_cases hd : lo ≤ d ∧ d ≤ hi
 ·exact frontGo_ok h k lo hi r l hd
 ·rw [frontGo_bad h k lo hi r l (by omega)] at hw; cases hw
theorem frontGo_whole_ne {rem : Nat} (h : 0 < rem) (k lo hi r : Nat) (hw : (frontGo rem k lo hi [] r).2.2 = true) : False := by
 rw [frontGo_nil h] at hw; cases hw
theorem frontL_whole {c : Nat} {l : List Nat} (hw : (frontL (c :: l)).2.2 = true) : (frontL (c :: l)).2.1 = sizeN c ∧ 1 ≤ sizeN c ∧ frontL (c :: l) = frontGo (sizeN c - 1) 1 (loN c) (hiN c) l (headN (sizeN c) c) := by
 by_cases h : sizeN c = 0
 ·rw [frontL, if_pos h] at hw; cases hw
 ·have he : frontL (c :: l) = frontGo (sizeN c - 1) 1 (loN c) (hiN c) l (headN (sizeN c) c) := by rw [frontL, if_neg h]
  rw [he] at hw ⊢
  have := (frontGo_bounds (sizeN c - 1) 1 (loN c) (hiN c) l (headN (sizeN c) c)).2.2.2 hw
  exact ⟨by omega, by omega, rfl⟩
theorem walkGo_neg : ∀ (f c p : Nat) (l : List Nat), 0 ≤ (walkGo f c p l).2 → (walkGo f c p l).1 = -1 := by
 intro f
 induction f with
 | zero => intro c p l h; cases l with
   | nil => rw [walkGo_nil] at h; simp at h
   | cons d l => rfl
 | succ f ih =>
   intro c p l h
   cases l with
   | nil => rw [walkGo_nil] at h; simp at h
   | cons d l =>
     cases hb : (frontL (d :: l)).2.2 with
     | true => rw [walkGo_ok _ _ (by omega) hb] at h ⊢; exact ih _ _ _ h
     | false => rw [walkGo_bad _ _ (by omega) hb]
theorem walkGo_lo : ∀ (f c p : Nat) (l : List Nat), -1 ≤ (walkGo f c p l).2 := by
 intro f
 induction f with
 | zero => intro c p l; cases l with
   | nil => rw [walkGo_nil]; simp
   | cons d l => simp [walkGo]; try omega
 | succ f ih =>
   intro c p l
   cases l with
   | nil => rw [walkGo_nil]; simp
   | cons d l =>
     cases hb : (frontL (d :: l)).2.2 with
     | true => rw [walkGo_ok _ _ (by omega) hb]; exact ih _ _ _
     | false => rw [walkGo_bad _ _ (by omega) hb]; simp; try omega
def spanN (c : Nat) : Nat × Nat × Nat :=
 if c < 128 then (1, 0, 0) else if c < 194 ∨ 244 < c then (0, 0, 0) else if c < 224 then (2, 128, 191) else if c = 224 then (3, 160, 191) else if c = 237 then (3, 128, 159)
 else if c < 240 then (3, 128, 191) else if c = 240 then (4, 144, 191) else if c = 244 then (4, 128, 143) else (4, 128, 191)
theorem spanN_size (c : Nat) : (spanN c).1 = sizeN c := by
 unfold spanN sizeN; (repeat' split) <;> first | rfl | (exfalso; omega)
theorem spanN_lo (c : Nat) (h : 1 < sizeN c) : (spanN c).2 = (loN c, hiN c) := by
 unfold sizeN at h; unfold spanN loN hiN
 (repeat' split) <;> first | rfl | (exfalso; omega) | ((repeat' split at h) <;> omega)
theorem spanN_lt (c : Nat) : (spanN c).2.1 < 256 ∧ (spanN c).2.2 < 256 := by
 unfold spanN; (repeat' split) <;> simp
end Go.Proofs.YtjjnmefihdjglaaGreat
namespace Go.Proofs.YtjjnmefihdjglaaGreat
open Go.RowKit
set_option maxRecDepth 100000 in
theorem size_any (c : Nat) (w : World) (h1 : c < 256) :
  Calls Tryz.prog 142 #[.int .u8 c] w fun e w' => e = .returned (.int .i64 (sizeN c)) ∧ w = w' := by
 go_enter Tryz.func142, Tryz.ntmps142
 go_wp2
 all_goals (go_ret; unfold sizeN; refine ⟨?_, rfl⟩; congr 2; (repeat' split) <;> first | rfl | omega)
set_option maxRecDepth 100000 in
theorem second_any (c : Nat) (w : World) :
  Calls Tryz.prog 143 #[.int .u8 c] w fun e w' => e = .returned (.tuple #[.int .u8 (loN c), .int .u8 (hiN c)]) ∧ w = w' := by
 go_enter Tryz.func143, Tryz.ntmps143
 go_wp2
 all_goals (go_ret2; unfold loN hiN; refine ⟨?_, rfl⟩)
 all_goals (simp only [beq_iff_eq, beq_eq_false_iff_ne] at *)
 all_goals (repeat (rw [if_pos (by omega)] <;> skip))
 all_goals (repeat rw [if_neg (by omega)])
 all_goals (repeat rw [if_pos (by omega)])
 all_goals (repeat rw [if_neg (by omega)])
 all_goals rfl
theorem low7 (c : Nat) (h : c < 128) : wrap32 (bits BinOp.and IntKind.u8 (c : Int) 127) = ((headN 1 c : Nat) : Int) := by
 have H : ∀ x : Fin 128, wrap32 (bits BinOp.and IntKind.u8 ((x.val : Nat) : Int) 127) = ((headN 1 x.val : Nat) : Int) := by decide +kernel
 exact H ⟨c, h⟩
theorem lt_of_size1 {c : Nat} (h : sizeN c = 1) : c < 128 := by
 unfold sizeN at h
 (repeat' split at h) <;> first | omega | contradiction
set_option maxHeartbeats 1000000 in
set_option maxRecDepth 100000 in
theorem front_any (s : ByteArray) (i : Nat) (w : World) (hi : i < s.size) (hs : s.size ≤ 9223372036854775807) :
  Calls Tryz.prog 139 #[.string s, .int .i64 i] w fun e w' =>
   e = .returned (.tuple #[.int .i32 (frontL ((bs s).drop i)).1, .int .i64 (frontL ((bs s).drop i)).2.1, .bool (frontL ((bs s).drop i)).2.2]) ∧ Ext w w' := by
 have hc : s[i].toNat < 256 := s[i].toNat_lt
 have HL := Lib.hid (drop_bs s i hi)
 rcases size_cases s[i].toNat with hn | hn | hn | hn | hn
 ·go_enter Tryz.func139, Tryz.ntmps139
  go_wp2_with (go_at_call 142; refine (size_any _ _ hc).mono ?_; rintro e w' ⟨rfl, rfl⟩)
  go_ret3
  rw [HL.out]
  simp [frontL, hn, Ext.refl]
 all_goals
  have HN := Lib.hid hn
  have hlo : loN s[i].toNat < 256 ∧ hiN s[i].toNat < 256 := by unfold loN hiN; constructor <;> (repeat' split) <;> omega
  go_enter Tryz.func139, Tryz.ntmps139
  go_wp2_with (go_at_call 142; refine (size_any _ _ hc).mono ?_; rintro e w' ⟨rfl, rfl⟩)
  go_quiet (fail)
  clear hn
  go_wp2_with (go_at_call 143; refine (second_any _ _).mono ?_; rintro e w' ⟨rfl, rfl⟩)
  go_loop [9, 10, 11, 12] (fun r lo hi k => ∃ k' r' lo' hi' : Nat, 1 ≤ k' ∧ k' ≤ sizeN s[i].toNat ∧ i + k' ≤ s.size ∧ lo' < 256 ∧ hi' < 256 ∧ ((k' = 1 ∧ r' < 128) ∨ (k' = 2 ∧ r' < 8192) ∨ (k' = 3 ∧ r' < 524288) ∨ (k' = 4 ∧ r' < 33554432)) ∧ r = .int .i32 r' ∧ lo = .int .u8 lo' ∧ hi = .int .u8 hi' ∧ k = .int .i64 k' ∧ frontGo (sizeN s[i].toNat - k') k' lo' hi' ((bs s).drop (i + k')) r' = frontL ((bs s).drop i)) (fun _ _ _ k => 5 - (intOf k).toNat)
  case atStart =>
   refine ⟨1, headN (sizeN s[i].toNat) s[i].toNat, _, _, by omega, by rw [HN.out]; omega, by omega, hlo.1, hlo.2, Or.inl ⟨rfl, ?_⟩, vI ?_, rfl, rfl, rfl, ?_⟩
   ·rw [HN.out]; simp [headN]; omega
   ·rw [HN.out]; first | (simp [headN]; done) | exact low7 _ (lt_of_size1 HN.out)
   ·rw [HL.out]; simp [frontL, HN.out]
  case round =>
   obtain ⟨k', r', lo', hi', g1, g2, g3, g4, g5, g6, rfl, rfl, rfl, rfl, g7⟩ := hrel
   have G7 := Lib.hid g7
   rw [HN.out] at g2
   clear g7
   by_cases hk : k' < sizeN s[i].toNat
   ·rw [HN.out] at hk
    try (exfalso; omega)
    all_goals
     by_cases hin : i + k' < s.size
     ·have HD := Lib.hid (drop_bs s (i + k') hin)
      have hd := s[i + k'].toNat_lt
      by_cases hlo : s[i + k'].toNat < lo'
      ·go_wp2_with fail
       go_ret3
       refine ⟨ret3 (vI ?_) (vI ?_) (vB ?_), ?_⟩
       all_goals try (rw [← G7.out, HD.out, frontGo_bad (by rw [HN.out]; omega) _ _ _ _ _ (by omega)])
       all_goals try rfl
       all_goals exact ((Ext.refl _).alloc _).drewN _
      ·by_cases hhi : hi' < s[i + k'].toNat
       ·go_wp2_with fail
        go_ret3
        refine ⟨ret3 (vI ?_) (vI ?_) (vB ?_), ?_⟩
        all_goals try (rw [← G7.out, HD.out, frontGo_bad (by rw [HN.out]; omega) _ _ _ _ _ (by omega)])
        all_goals try rfl
        all_goals exact ((Ext.refl _).alloc _).drewN _
       ·go_wp2_with fail
        go_round
        case rel =>
         refine ⟨k' + 1, r' * 64 + s[i + k'].toNat % 64, 128, 191, by omega, by rw [HN.out]; omega, by omega, by omega, by omega, by omega, vI (by omega), rfl, rfl, vI (by omega), ?_⟩
         rw [← G7.out, HD.out, frontGo_ok (by rw [HN.out]; omega) _ _ _ _ _ (by omega)]
         rfl
        case measure => simp [intOf]; omega
     ·have HD := Lib.hid (drop_bs_nil s (i + k') (by omega))
      go_wp2_with fail
      go_ret3
      refine ⟨ret3 (vI ?_) (vI ?_) (vB ?_), ?_⟩
      all_goals try (rw [← G7.out, HD.out, frontGo_nil (by rw [HN.out]; omega)])
      all_goals try rfl
      all_goals exact ((Ext.refl _).alloc _).drewN _
   ·rw [HN.out] at hk
    go_wp2_with fail
    go_ret3
    obtain rfl : k' = sizeN s[i].toNat := by rw [HN.out]; omega
    refine ⟨ret3 (vI ?_) (vI ?_) (vB ?_), ?_⟩
    all_goals try (rw [← G7.out, Nat.sub_self, frontGo_end])
    all_goals try rfl
    ·rw [HN.out]; rfl
    all_goals exact ((Ext.refl _).alloc _).drewN _
end Go.Proofs.YtjjnmefihdjglaaGreat
namespace Go.Proofs.YtjjnmefihdjglaaGreat
open Go.RowKit
set_option maxHeartbeats 1000000 in
set_option maxRecDepth 100000 in
theorem walk_any (s : ByteArray) (w : World) (hs : s.size ≤ 9223372036854775807) :
  Calls Tryz.prog 128 #[.string s] w fun e w' =>
   e = .returned (.tuple #[.int .i64 (walkL (bs s)).1, .int .i64 (walkL (bs s)).2]) ∧ Ext w w' := by
 go_enter Tryz.func128, Tryz.ntmps128
 go_wp2_with fail
 go_loopw [4, 5] (fun c p wr => ∃ c' p' f : Nat, p' ≤ s.size ∧ c' ≤ p' ∧ s.size ≤ p' + f ∧ c = .int .i64 c' ∧ p = .int .i64 p' ∧ Hid (walkGo f c' p' ((bs s).drop p') = walkL (bs s)) ∧ Ext w wr) (fun _ p _ => s.size - (intOf p).toNat)
 case atStart => exact ⟨0, 0, (bs s).length, by omega, by omega, by rw [length_bs]; omega, rfl, rfl, rfl, Ext.refl _⟩
 case round =>
  obtain ⟨c', p', f, g1, g2, g3, rfl, rfl, g4, hx⟩ := hrel
  by_cases hp : p' < s.size
  ·have HD := Lib.hid (drop_bs s p' hp)
   have hb := frontL_bounds ((bs s).drop p')
   rw [List.length_drop, length_bs] at hb
   go_wp2_with fail
   refine (front_any s p' _ hp hs).mono ?_
   rintro e w1 ⟨rfl, hx1⟩
   cases hk : (frontL ((bs s).drop p')).2.2
   ·have HB := Lib.hid hk
    go_wp2_with fail
    go_ret2
    have hg := g4
    unfold Hid at hg
    rw [HD.out] at hg HB ⊢
    rw [walkGo_bad _ _ (by omega) HB.out] at hg
    rw [← hg]
    exact ⟨ret2 rfl (vI (by simp)), hx.trans hx1⟩
   ·have HB := Lib.hid hk
    have h1 := hb.2.2 hk
    clear hk
    go_wp2_with fail
    go_roundw
    case rel =>
     have hg := g4
     unfold Hid at hg
     rw [HD.out, walkGo_ok _ _ (by omega) (by rw [← HD.out]; exact HB.out), ← HD.out, List.drop_drop] at hg
     exact ⟨c' + 1, p' + (frontL ((bs s).drop p')).2.1, f - 1, by omega, by omega, by omega, vI (by omega), vI (by omega), hg, hx.trans hx1⟩
    case measure => simp [intOf]; omega
  ·have HD := Lib.hid (drop_bs_nil s p' (by omega))
   go_wp2_with fail
   go_ret2
   have hg := g4
   unfold Hid at hg
   rw [HD.out, walkGo_nil] at hg
   rw [← hg]
   exact ⟨rfl, hx⟩
set_option maxRecDepth 100000 in
theorem Bad_any (s : ByteArray) (w : World) (hs : s.size ≤ 9223372036854775807) :
  Calls Tryz.prog 106 #[.string s] w fun e w' => e = .returned (.int .i64 (badL (bs s))) ∧ Ext w w' := by
 go_enter Tryz.func106, Tryz.ntmps106
 go_wp2_with fail
 refine (walk_any s _ hs).mono ?_
 rintro e w1 ⟨rfl, hx⟩
 go_wp2_with fail
 go_ret
 exact ⟨rfl, hx⟩
end Go.Proofs.YtjjnmefihdjglaaGreat
namespace Go.Proofs.YtjjnmefihdjglaaGreat
open Go.RowKit
set_option maxRecDepth 100000 in
theorem span_any (c : Nat) (w : World) (_h : c < 256) :
  Calls Tryz.prog 136 #[.int .u8 c] w fun e w' => e = .returned (.tuple #[.int .i64 (spanN c).1, .int .u8 (spanN c).2.1, .int .u8 (spanN c).2.2]) ∧ w = w' := by
 go_enter Tryz.func136, Tryz.ntmps136
 go_wp2
 all_goals go_ret3
 all_goals (simp only [beq_iff_eq, beq_eq_false_iff_ne] at *)
 all_goals (refine ⟨?_, trivial⟩; simp (disch := omega) only [spanN, if_pos, if_neg]; rfl)
set_option maxHeartbeats 1000000 in
set_option maxRecDepth 100000 in
theorem Front_any (s : ByteArray) (i : Nat) (w : World) (hi : i < s.size) (hs : s.size ≤ 9223372036854775807) :
  Calls Tryz.prog 123 #[.string s, .int .i64 i] w fun e w' =>
   e = .returned (.tuple #[.int .i64 (frontL ((bs s).drop i)).2.1, .bool (frontL ((bs s).drop i)).2.2]) ∧ w = w' := by
 have hc : s[i].toNat < 256 := s[i].toNat_lt
 have HL := Lib.hid (drop_bs s i hi)
 have HS := Lib.hid (spanN_size s[i].toNat)
 have hlt := spanN_lt s[i].toNat
 by_cases h0 : sizeN s[i].toNat = 0
 ·have h0' : (((spanN s[i].toNat).1 : Int) == 0) = true := by rw [HS.out, h0]; rfl
  have H0 := Lib.hid h0
  clear h0
  go_enter Tryz.func123, Tryz.ntmps123
  go_wp2_with (go_at_call 136; refine (span_any _ _ hc).mono ?_; rintro e w' ⟨rfl, rfl⟩)
  go_ret2
  rw [HL.out]
  simp [frontL, H0.out]
 ·have h0' : (((spanN s[i].toNat).1 : Int) == 0) = false := by rw [HS.out]; simpa using h0
  have hle : (spanN s[i].toNat).1 ≤ 4 := by rw [HS.out]; have := size_cases s[i].toNat; omega
  have HF : Hid (frontL ((bs s).drop i) = frontGo ((spanN s[i].toNat).1 - 1) 1 (loN s[i].toNat) (hiN s[i].toNat) ((bs s).drop (i + 1)) (headN (sizeN s[i].toNat) s[i].toNat)) := by
   unfold Hid; rw [HL.out, frontL, if_neg h0, HS.out]
  have HB : Hid (1 < (spanN s[i].toNat).1 → (spanN s[i].toNat).2.1 = loN s[i].toNat ∧ (spanN s[i].toNat).2.2 = hiN s[i].toNat) := fun h => by
   have := spanN_lo s[i].toNat (by rw [HS.out] at h; exact h)
   rw [this]; exact ⟨rfl, rfl⟩
  have h1 : 1 ≤ (spanN s[i].toNat).1 := by rw [HS.out]; omega
  clear h0
  go_enter Tryz.func123, Tryz.ntmps123
  go_wp2_with (go_at_call 136; refine (span_any _ _ hc).mono ?_; rintro e w' ⟨rfl, rfl⟩)
  go_loop [7, 8, 9] (fun lo hi k => ∃ k' r' lo' hi' : Nat, 1 ≤ k' ∧ k' ≤ (spanN s[i].toNat).1 ∧ i + k' ≤ s.size ∧ lo' < 256 ∧ hi' < 256 ∧ lo = .int .u8 lo' ∧ hi = .int .u8 hi' ∧ k = .int .i64 k' ∧ Hid (frontL ((bs s).drop i) = frontGo ((spanN s[i].toNat).1 - k') k' lo' hi' ((bs s).drop (i + k')) r')) (fun _ _ k => 5 - (intOf k).toNat)
  case atStart =>
   refine ⟨1, headN (sizeN s[i].toNat) s[i].toNat, _, _, by omega, h1, by omega, hlt.1, hlt.2, rfl, rfl, rfl, ?_⟩
   unfold Hid
   rw [HF.out]
   by_cases hg : 1 < (spanN s[i].toNat).1
   ·rw [(HB.out hg).1, (HB.out hg).2]
   ·rw [show (spanN s[i].toNat).1 - 1 = 0 from by omega, frontGo_end, frontGo_end]
  case round =>
   obtain ⟨k', r', lo', hi', g1, g2, g3, g4, g5, rfl, rfl, rfl, G⟩ := hrel
   by_cases hk : k' < (spanN s[i].toNat).1
   ·by_cases hin : i + k' < s.size
    ·have HD := Lib.hid (drop_bs s (i + k') hin)
     have hd := s[i + k'].toNat_lt
     by_cases hlo : s[i + k'].toNat < lo'
     ·go_wp2_with fail
      go_ret2
      rw [G.out, HD.out, frontGo_bad (by omega) _ _ _ _ _ (by omega)]
      exact ⟨rfl, rfl⟩
     ·by_cases hhi : hi' < s[i + k'].toNat
      ·go_wp2_with fail
       go_ret2
       rw [G.out, HD.out, frontGo_bad (by omega) _ _ _ _ _ (by omega)]
       exact ⟨rfl, rfl⟩
      ·go_wp2_with fail
       go_round
       case rel =>
        refine ⟨k' + 1, r' * 64 + s[i + k'].toNat % 64, 128, 191, by omega, by omega, by omega, by omega, by omega, rfl, rfl, vI (by omega), ?_⟩
        unfold Hid
        rw [G.out, HD.out, frontGo_ok (by omega) _ _ _ _ _ (by omega)]
        rfl
       case measure => simp [intOf]; omega
    ·have HD := Lib.hid (drop_bs_nil s (i + k') (by omega))
     have hne : ((k' : Int) == ((spanN s[i].toNat).1 : Int)) = false := by simp; omega
     go_wp2_with fail
     go_ret2
     rw [G.out, HD.out, frontGo_nil (by omega)]
     exact ⟨ret2 rfl (vB rfl), rfl⟩
   ·have hne : ((k' : Int) == ((spanN s[i].toNat).1 : Int)) = true := by simp; omega
    have HK : Hid ((spanN s[i].toNat).1 - k' = 0) := by unfold Hid; omega
    go_wp2_with fail
    go_ret2
    rw [G.out, HK.out, frontGo_end]
    exact ⟨ret2 rfl (vB rfl), rfl⟩
end Go.Proofs.YtjjnmefihdjglaaGreat
namespace Go.Proofs.YtjjnmefihdjglaaGreat
open Go.RowKit
theorem and31 (c : Nat) (h : c < 256) : bits BinOp.and IntKind.i32 (c : Int) 31 = ((headN 2 c : Nat) : Int) := by
 have H : ∀ x : Fin 256, bits BinOp.and IntKind.i32 ((x.val : Nat) : Int) 31 = ((headN 2 x.val : Nat) : Int) := by decide +kernel
 exact H ⟨c, h⟩
theorem and15 (c : Nat) (h : c < 256) : bits BinOp.and IntKind.i32 (c : Int) 15 = ((headN 3 c : Nat) : Int) := by
 have H : ∀ x : Fin 256, bits BinOp.and IntKind.i32 ((x.val : Nat) : Int) 15 = ((headN 3 x.val : Nat) : Int) := by decide +kernel
 exact H ⟨c, h⟩
theorem and7 (c : Nat) (h : c < 256) : bits BinOp.and IntKind.i32 (c : Int) 7 = ((headN 4 c : Nat) : Int) := by
 have H : ∀ x : Fin 256, bits BinOp.and IntKind.i32 ((x.val : Nat) : Int) 7 = ((headN 4 x.val : Nat) : Int) := by decide +kernel
 exact H ⟨c, h⟩
end Go.Proofs.YtjjnmefihdjglaaGreat
namespace Go.Proofs.YtjjnmefihdjglaaGreat
open Go.RowKit
set_option maxHeartbeats 1000000 in
set_option maxRecDepth 100000 in
theorem rBad_any (s : ByteArray) (w : World) (hs : s.size ≤ 9223372036854775807) :
  Calls Tryz.prog 97 #[.string s] w fun e w' => e = .returned (.int .i64 (badL (bs s))) ∧ Ext w w' := by
 go_enter Tryz.func97, Tryz.ntmps97
 go_wp2_with fail
 go_loop [3] (fun p => ∃ c' p' f : Nat, p' ≤ s.size ∧ s.size ≤ p' + f ∧ p = .int .i64 p' ∧ Hid (walkGo f c' p' ((bs s).drop p') = walkL (bs s))) (fun p => s.size - (intOf p).toNat)
 case atStart => exact ⟨0, 0, (bs s).length, by omega, by rw [length_bs]; omega, rfl, rfl⟩
 case round =>
  obtain ⟨c', p', f, g1, g3, rfl, g4⟩ := hrel
  by_cases hp : p' < s.size
  ·have HD := Lib.hid (drop_bs s p' hp)
   have hb := frontL_bounds ((bs s).drop p')
   rw [List.length_drop, length_bs] at hb
   go_wp2_with fail
   refine (Front_any s p' _ hp hs).mono ?_
   rintro e w1 ⟨rfl, rfl⟩
   cases hk : (frontL ((bs s).drop p')).2.2
   ·have HB := Lib.hid hk
    go_wp2_with fail
    go_ret
    have hg := g4
    unfold Hid at hg
    rw [HD.out] at hg HB ⊢
    rw [walkGo_bad _ _ (by omega) HB.out] at hg
    rw [badL, ← hg]
    exact ⟨retI (by simp), Ext.refl _⟩
   ·have HB := Lib.hid hk
    have h1 := hb.2.2 hk
    clear hk
    go_wp2_with fail
    go_round
    case rel =>
     have hg := g4
     unfold Hid at hg
     rw [HD.out, walkGo_ok _ _ (by omega) (by rw [← HD.out]; exact HB.out), ← HD.out, List.drop_drop] at hg
     exact ⟨c' + 1, p' + (frontL ((bs s).drop p')).2.1, f - 1, by omega, by omega, vI (by omega), hg⟩
    case measure => simp [intOf]; omega
  ·have HD := Lib.hid (drop_bs_nil s p' (by omega))
   go_wp2_with fail
   go_ret
   have hg := g4
   unfold Hid at hg
   rw [HD.out, walkGo_nil] at hg
   rw [badL, ← hg]
   exact ⟨rfl, Ext.refl _⟩
end Go.Proofs.YtjjnmefihdjglaaGreat
