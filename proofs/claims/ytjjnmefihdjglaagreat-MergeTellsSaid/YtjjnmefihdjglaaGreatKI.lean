import Derived.Test.YtjjnmefihdjglaaGreatKG
import Derived.Test.YtjjnmefihdjglaaGreatKE
import Derived.Test.YtjjnmefihdjglaaGreatKF
set_option maxRecDepth 100000
set_option maxHeartbeats 64000000
set_option linter.all false
namespace Go.Proofs.YtjjnmefihdjglaaGreat
open Go.RowKit
structure TyE (SL T : TypeId) (K B : Nat) : Prop where
 sl : Tryz.prog.underlying SL = some (.slice T)
 inf : ∃ i z,Tryz.prog.info? T = some i ∧ i.zero = some z ∧ z.cells.size = K ∧ i.size = K ∧ i.bytes = B
theorem TyE.mk' {SL T : TypeId} {K B : Nat} (h : Tryz.prog.underlying SL = some (.slice T)) (k : (Tryz.prog.info? T).map (fun i => (i.zero.map (fun z => z.cells.size),i.size,i.bytes)) = some (some K,K,B)) : TyE SL T K B := by
 refine ⟨h,?_⟩
 obtain ⟨i,hi,h3⟩ := Option.map_eq_some_iff.1 k
 injection h3 with h4 h5
 injection h5 with h5 h6
 obtain ⟨z,hz,h7⟩ := Option.map_eq_some_iff.1 h4
 exact ⟨i,z,hi,hz,h7,h5,h6⟩
section
variable {E : Type} {K : Nat} {T : TypeId} {cs : E → List Value}
def OwnR (K : Nat) (T : TypeId) (cs : E → List Value) (base : Nat) (v : Value) (n : Nat) (d : Nat → E) (W : World) : Prop :=
 (v = .slice none 0 0 ∧ n = 0) ∨ ∃ g cap,v = .slice (some ⟨g,0,none⟩) n cap ∧ base ≤ g ∧ n ≤ cap ∧ ∃ c,W.heap[g]? = some (.cells c T (0,0)) ∧ c.size = cap * K ∧ ∀ i,i < n → ∀ j,j < K → c[i * K + j]? = (cs (d i))[j]?
theorem OwnR.row {base n : Nat} {v : Value} {d : Nat → E} {W : World} (h : OwnR K T cs base v n d W) (hn : 0 < n) : ∃ g cap,v = .slice (some ⟨g,0,none⟩) n cap ∧ base ≤ g ∧ RowE K T cs g n d W := by
 rcases h with ⟨_,h⟩ | ⟨g,cap,e,h1,h2,c,h3,h4,h5⟩
 ·omega
 ·exact ⟨g,cap,e,h1,c,h3,by rw [h4]; exact Nat.mul_le_mul_right K h2,h5⟩
theorem OwnR.nil (base : Nat) (d : Nat → E) (W : World) : OwnR K T cs base (.slice none 0 0) 0 d W := .inl ⟨rfl,rfl⟩
theorem OwnR.congr {base n : Nat} {v : Value} {d e : Nat → E} {W : World} (h : OwnR K T cs base v n d W) (k : ∀ i,i < n → e i = d i) : OwnR K T cs base v n e W := by
 rcases h with h | ⟨g,cap,e1,h1,h2,c,h3,h4,h5⟩
 ·exact .inl h
 ·exact .inr ⟨g,cap,e1,h1,h2,c,h3,h4,fun i hi j hj => by rw [k i hi]; exact h5 i hi j hj⟩
theorem OwnR.lt {base n : Nat} {v : Value} {d : Nat → E} {W : World} (h : OwnR K T cs base v n d W) : ∀ g,v.ownBlock = some g → base ≤ g ∧ g < W.heap.size := by
 intro g hg
 rcases h with ⟨rfl,_⟩ | ⟨g',cap,rfl,h1,_,c,h3,_⟩
 ·cases hg
 ·injection hg with hg
  subst hg
  exact ⟨h1,(Array.getElem?_eq_some_iff.1 h3).1⟩
theorem OwnR.ext {base n : Nat} {v : Value} {d : Nat → E} {W W' : World} (h : OwnR K T cs base v n d W) (x : Ext W W') : OwnR K T cs base v n d W' := by
 rcases h with h | ⟨g,cap,e1,h1,h2,c,h3,h4⟩
 ·exact .inl h
 ·exact .inr ⟨g,cap,e1,h1,h2,c,(x.heap (Array.getElem?_eq_some_iff.1 h3).1).trans h3,h4⟩
theorem OwnR.form {base n : Nat} {v : Value} {d : Nat → E} {W : World} (h : OwnR K T cs base v n d W) : ∃ a c,v = .slice a n c := by
 rcases h with ⟨rfl,rfl⟩ | ⟨g,cap,rfl,_⟩
 ·exact ⟨_,_,rfl⟩
 ·exact ⟨_,_,rfl⟩
theorem grown_ext' {w0 w w' : World} {row : Option Nat} {base : Nat} (h : Ext w0 w) (g : w.grownBy w' row) (hb : w0.heap.size ≤ base) (hr : ∀ k,row = some k → base ≤ k) : Ext w0 w' :=
 ⟨g.os.trans h.1,g.tape.trans h.2,g.output.trans h.3,Nat.le_trans h.size g.size,fun j hj => (g.block j (Nat.lt_of_lt_of_le hj h.size) (fun e => by have := hr j e.symm; omega)).trans (h.heap hj)⟩
theorem grown_cell {w w' : World} {row : Option Nat} (g : w.grownBy w' row) {p : Addr} (hp : p.block < w.heap.size) (hn : ∀ k,row = some k → p.block ≠ k) : w'.cell? p = w.cell? p := by
 unfold World.cell?
 rw [g.block _ hp (fun e => hn _ e.symm rfl)]
def joinF (n : Nat) (d e : Nat → E) : Nat → E := fun i => if i < n then d i else e (i - n)
theorem flat_len (f : Nat → List Value) (hf : ∀ i,(f i).length = K) : ∀ m,((List.range m).flatMap f).length = m * K
 | 0 => by simp
 | m + 1 => by rw [List.range_succ,List.flatMap_append,List.length_append,flat_len f hf m]; simp [hf,Nat.add_mul]
theorem flat_get (f : Nat → List Value) (hf : ∀ i,(f i).length = K) : ∀ m i j,i < m → j < K → ((List.range m).flatMap f)[i * K + j]? = (f i)[j]?
 | 0,i,j,h,_ => by omega
 | m + 1,i,j,h,hj => by
   rw [List.range_succ,List.flatMap_append]
   by_cases q : i < m
   ·rw [List.getElem?_append_left (by rw [flat_len f hf]; have := row_le (K := K) q; omega)]
    exact flat_get f hf m i j q hj
   ·obtain rfl : i = m := by omega
    rw [List.getElem?_append_right (by rw [flat_len f hf]; omega),flat_len f hf]
    simp
theorem grownBy_setCells (w : World) (g o : Nat) (l : List Value) : w.grownBy (w.setCells g o l) (some g) := by
 have : ∀ (l : List Value) (o : Nat) (v : World),w.grownBy v (some g) → w.grownBy (v.setCells g o l) (some g) := by
  intro l
  induction l with
  | nil => intro o v h; exact h
  | cons x r ih =>
    intro o v h
    refine ih (o + 1) _ ⟨h.os,h.tape,h.output,?_,fun k hk hn => ?_⟩
    ·unfold World.setCell; simp; exact h.size
    ·unfold World.setCell
     simp only [Array.getElem?_modify]
     rw [if_neg (fun e => hn (by rw [e]))]
     exact h.block k hk hn
 exact this l o w ⟨rfl,rfl,rfl,Nat.le_refl _,fun _ _ _ => rfl⟩
theorem mul_split {x n K : Nat} (h : n ≤ x) : x * K = n * K + (x - n) * K := by rw [← Nat.add_mul,Nat.add_sub_cancel' h]
theorem append_structs {SL : TypeId} {B : Nat} (hT : TyE SL T K B) (hK : ∀ x,(cs x).length = K) (h1 : ∀ x,∀ u ∈ cs x,u.oneCell' = true) (hK0 : 0 < K) (w : World) (ty : TypeId) (base : Nat) (v : Value) (n : Nat) (d : Nat → E)
  (h : OwnR K T cs base v n d w) (hbase : base ≤ w.heap.size) (ad : Addr) (m c : Nat) (e : Nat → E) (hn : ∀ i,i < m → ∀ j,j < K → w.cell? (ad.add (i * K + j)) = (cs (e i))[j]?)
  (hb : (n + m) * B ≤ 140737488355328) (hl : n + m ≤ 9223372036854775807) (hz : v ≠ .slice none 0 0 ∨ 0 < m) :
  ∃ v' w',(Builtin.append_ #[SL,SL] ty #[v,.slice (some ad) m c]).run Tryz.prog w = .ok v' w' ∧ OwnR K T cs base v' (n + m) (joinF n d e) w' ∧ w.grownBy w' v.ownBlock ∧ (v'.ownBlock = v.ownBlock ∨ v'.ownBlock = some w.heap.size) := by
 obtain ⟨i,z,hi,hiz,hzs,hsz,hby⟩ := hT.inf
 have hfe := fun i => hK (e i)
 have hfd := fun i => hK (d i)
 obtain ⟨news,hnews⟩ : ∃ l,(List.range m).flatMap (fun i => cs (e i)) = l := ⟨_,rfl⟩
 have hnl : news.length = m * K := by rw [← hnews]; exact flat_len _ hfe m
 have hng : ∀ i j,i < m → j < K → news[i * K + j]? = (cs (e i))[j]? := by rw [← hnews]; exact flat_get _ hfe m
 have hsrc : Src Tryz.prog i.size SL (.slice (some ad) m c) m news w := by
  rw [hsz]
  refine Src.ofSlice w hT.sl ad m c news hnl (fun j u hu => ?_) (fun u hu => ?_)
  ·have hj : j < m * K := by rw [← hnl]; exact (List.getElem?_eq_some_iff.1 hu).1
   have e1 : j / K * K + j % K = j := by rw [Nat.mul_comm]; exact Nat.div_add_mod j K
   have q1 : j / K < m := (Nat.div_lt_iff_lt_mul hK0).2 hj
   have q2 : j % K < K := Nat.mod_lt _ hK0
   have := hng _ _ q1 q2
   rw [e1] at this
   rw [← e1,hn _ q1 _ q2,← this,hu]
  ·rw [← hnews] at hu
   obtain ⟨x,_,hx⟩ := List.mem_flatMap.1 hu
   exact h1 _ u hx
 have grow : ∀ (ad0 : Option Addr) (cap : Nat) (olds : List Value),olds.length = n * K → (∀ i j,i < n → j < K → olds[i * K + j]? = (cs (d i))[j]?) → (Builtin.firstCells i.size n (.slice ad0 n cap)).run Tryz.prog w.drew = .ok olds.toArray w.drew → cap < n + m →
   ∃ v' w',(Builtin.append_ #[SL,SL] ty #[.slice ad0 n cap,.slice (some ad) m c]).run Tryz.prog w = .ok v' w' ∧ OwnR K T cs base v' (n + m) (joinF n d e) w' ∧ (∀ r,w.grownBy w' r) ∧ v'.ownBlock = some w.heap.size := by
  intro ad0 cap olds ho hg hold hc
  have R := run_append_grow_src (P := Tryz.prog) w SL SL ty T i z hT.sl hi hiz ad0 n cap olds hold (.slice (some ad) m c) m news hsrc hc (by omega) (by rw [hby]; exact growslice_fits hc hb)
  refine ⟨_,_,R,.inr ⟨w.heap.size,_,rfl,hbase,grownCap_ge _ _ _ _,_,heap_last w.drew _,?_,?_⟩,fun r => by
   have x := (Ext.refl w).drew.alloc (.cells ((olds ++ news).toArray ++ Builtin.zeroCells z.cells (grownCap w (n + m) cap T - (n + m))) T)
   exact ⟨x.1,x.2,x.3,x.size,fun k hk _ => x.heap hk⟩,rfl⟩
  ·have := grownCap_ge w (n + m) cap T
   rw [Array.size_append,List.size_toArray,List.length_append,size_zeroCells,hzs,ho,hnl,← Nat.add_mul,← Nat.add_mul,Nat.add_sub_cancel' this]
  ·intro x hx j hj
   have hle := row_le (K := K) hx
   rw [Array.getElem?_append_left (by rw [List.size_toArray,List.length_append,ho,hnl,← Nat.add_mul]; omega),List.getElem?_toArray]
   unfold joinF
   by_cases q : x < n
   ·rw [if_pos q,List.getElem?_append_left (by rw [ho]; have := row_le (K := K) q; omega)]
    exact hg x j q hj
   ·rw [if_neg q]
    have e1 : x * K + j = olds.length + ((x - n) * K + j) := by rw [ho,← Nat.add_assoc,← mul_split (by omega)]
    rw [e1,List.getElem?_append_right (by omega),Nat.add_sub_cancel_left]
    exact hng _ _ (by omega) hj
 rcases h with ⟨rfl,rfl⟩ | ⟨g,cap,rfl,q1,q2,cc,q3,q4,q5⟩
 ·have hm : 0 < m := hz.resolve_left (fun h => h rfl)
  obtain ⟨v',w',r1,r2,r3,r4⟩ := grow none 0 [] (by simp) (fun i j hi _ => by omega) (run_firstCells_none (w := w.drew) _ _ _ _) (by omega)
  exact ⟨v',w',r1,r2,r3 _,.inr r4⟩
 ·by_cases hr : n + m ≤ cap
  ·have hle : n * K + m * K ≤ cap * K := by rw [← Nat.add_mul]; exact Nat.mul_le_mul_right K hr
   have R := run_append_room_src (P := Tryz.prog) w SL SL ty T i hT.sl hi g 0 n cap (.slice (some ad) m c) m news hsrc hr (fun j hj => by
    rw [Lib.cell_of_heap q3]
    rw [hnl] at hj
    rw [Array.getElem?_eq_getElem (by rw [q4,hsz]; omega)]
    rfl) (fun j _ => by unfold World.frozen?; rw [q3]; simp)
   refine ⟨_,_,R,.inr ⟨g,cap,rfl,q1,hr,setL cc (0 + n * i.size) news,heap_setCells g news _ w cc T (0,0) q3,by rw [setL_size]; exact q4,?_⟩,grownBy_setCells _ _ _ _,.inl rfl⟩
   intro x hx j hj
   rw [hsz,Nat.zero_add]
   have hle := row_le (K := K) hx
   unfold joinF
   by_cases q : x < n
   ·rw [if_pos q,setL_out _ _ _ _ (.inl (by have := row_le (K := K) q; omega))]
    exact q5 x q j hj
   ·rw [if_neg q]
    have e1 : x * K + j = n * K + ((x - n) * K + j) := by rw [← Nat.add_assoc,← mul_split (by omega)]
    have hle2 := row_le (K := K) (show x - n < m by omega)
    rw [e1,setL_in news (n * K) cc _ (by rw [hnl]; omega) (by rw [hnl,q4]; omega)]
    exact hng _ _ (by omega) hj
  ·obtain ⟨v',w',r1,r2,r3,r4⟩ := grow (some ⟨g,0,none⟩) cap ((List.range n).flatMap (fun i => cs (d i))) (flat_len _ hfd n) (fun i j hi hj => flat_get _ hfd n i j hi hj) (by
    rw [hsz]
    refine run_firstCells_some (w := w.drew) K n ⟨g,0,none⟩ n cap _ (flat_len _ hfd n) (fun j u hu => ?_)
    have hj : j < n * K := by rw [← flat_len _ hfd n]; exact (List.getElem?_eq_some_iff.1 hu).1
    have e1 : j / K * K + j % K = j := by rw [Nat.mul_comm]; exact Nat.div_add_mod j K
    have p1 : j / K < n := (Nat.div_lt_iff_lt_mul hK0).2 hj
    have p2 : j % K < K := Nat.mod_lt _ hK0
    have k1 := q5 _ p1 _ p2
    have k2 := flat_get _ hfd n _ _ p1 p2
    rw [e1] at k1 k2
    rw [Addr.add_lit,Nat.zero_add,World.cell?_drew,Lib.cell_of_heap q3,k1,← k2,hu]) (by omega)
   exact ⟨v',w',r1,r2,r3 _,.inr r4⟩
theorem wpList_append_structs {ops : Array Oper} {rest : List Oper} {o : Oper} {a : Act} {Q : Exit → Act → World → Prop} (w : World) (hgd : o.guard = none) (sl x : Operand) {SL : TypeId} (ho : o.op = .call { callee := .builtin .append,args := #[sl,x],argTypes := #[SL,SL] })
  {B : Nat} (hT : TyE SL T K B) (hK : ∀ x,(cs x).length = K) (h1 : ∀ x,∀ u ∈ cs x,u.oneCell' = true) (hK0 : 0 < K) (base : Nat) (v : Value) (n : Nat) (d : Nat → E) (hs : a.eval sl = v)
  (h : OwnR K T cs base v n d w) (hbase : base ≤ w.heap.size) (ad : Addr) (m c : Nat) (e : Nat → E) (hx : a.eval x = .slice (some ad) m c) (hn : ∀ i,i < m → ∀ j,j < K → w.cell? (ad.add (i * K + j)) = (cs (e i))[j]?)
  (hb : (n + m) * B ≤ 140737488355328) (hl : n + m ≤ 9223372036854775807) (hz : v ≠ .slice none 0 0 ∨ 0 < m)
  (hg : ∀ v' w',OwnR K T cs base v' (n + m) (joinF n d e) w' → w.grownBy w' v.ownBlock → (v'.ownBlock = v.ownBlock ∨ v'.ownBlock = some w.heap.size) → wpList Tryz.prog ops Q rest (a.put o.dst v') w') :
  wpList Tryz.prog ops Q (o :: rest) a w := by
 obtain ⟨v',w',hr,h2,h3,h4⟩ := append_structs hT hK h1 hK0 w o.type base v n d h hbase ad m c e hn hb hl hz
 exact Lib.wpList_append_run w hgd sl x SL SL ho v _ hs hx v' w' hr (hg v' w' h2 h3 h4)
end
end Go.Proofs.YtjjnmefihdjglaaGreat
namespace Go.Proofs.YtjjnmefihdjglaaGreat
section
variable {α : Type} {f : α → α → Int}
def Ris (f : α → α → Int) (L : List α) : Prop := L.Pairwise (fun x y => f x y < 0)
theorem Ris.unique (h : Cmp f) {A B : List α} (ha : Ris f A) (hb : Ris f B) (p : A.Perm B) : A = B := by
 refine List.Perm.eq_of_pairwise (le := fun x y => f x y < 0) (fun x y _ _ h1 h2 => ?_) ha hb p
 have := h.anti x y
 omega
theorem Ris.of_sorted (h : Cmp f) {A B : List α} (ha : A.Pairwise (fun x y => ¬ f y x < 0)) (hb : Ris f B) (p : A.Perm B) : Ris f A := by
 have h1 : B.Pairwise (fun x y => f x y ≠ 0) := hb.imp (fun {x y} h => by omega)
 have h2 : A.Pairwise (fun x y => f x y ≠ 0) := (p.pairwise_iff (fun {x y} hxy => by have := h.anti x y; omega)).2 h1
 refine (ha.and h2).imp (fun {x y} hxy => ?_)
 have := h.anti x y
 omega
theorem ris_cons2 (h : Cmp f) (x y : α) (L : List α) : Ris f (x :: y :: L) ↔ f x y < 0 ∧ Ris f (y :: L) := by
 unfold Ris
 rw [List.pairwise_cons]
 constructor
 ·rintro ⟨h1,h2⟩
  exact ⟨h1 y (by simp),h2⟩
 ·rintro ⟨h1,h2⟩
  refine ⟨fun z hz => ?_,h2⟩
  rcases List.mem_cons.1 hz with rfl | hz
  ·exact h1
  ·have h3 := (List.pairwise_cons.1 h2).1 z hz
   exact h.lt_trans (by omega) (by omega) (.inl h1)
end
theorem risesK_iff : ∀ (L : List PtK),risesK L = true ↔ Ris cmpK L
 | [] => by simp [risesK,Ris]
 | [x] => by simp [risesK,Ris]
 | x :: y :: L => by
   rw [ris_cons2 cmpK_cmp,← risesK_iff (y :: L),risesK]
   simp
abbrev PtY := PtK × Int × Int
def PtD.y (p : PtD) : PtY := (p.k,p.m,p.s)
def cmpY (x y : PtY) : Int := cmpK x.1 y.1
theorem cmpY_cmp : Cmp cmpY := cmpK_cmp.pull (fun x : PtY => x.1)
theorem ris_map {α β : Type} (f : β → β → Int) (g : α → β) (L : List α) : Ris f (L.map g) ↔ Ris (fun x y => f (g x) (g y)) L := by
 unfold Ris; rw [List.pairwise_map]
theorem risesK_y (L : List PtD) : risesK (L.map PtD.k) = true ↔ Ris cmpY (L.map PtD.y) := by
 rw [risesK_iff,ris_map,ris_map]; exact Iff.rfl
theorem lt_of_cmp {α : Type} {f : α → α → Int} (h : Cmp f) : Lt (fun x y => decide (f x y < 0)) where
 asymm x y e := by
  have := h.anti x y
  simp at e ⊢; omega
 ntrans x y z h1 h2 := by
  have a1 := h.anti x y
  have a2 := h.anti y z
  have a3 := h.anti x z
  have := h.trans x y z
  simp at h1 h2 ⊢; omega
theorem sd_pairwise {α : Type} {f : α → α → Int} (d : Nat → α) (n : Nat) (h : Sd (fun x y => decide (f x y < 0)) d 0 n) : ((List.range n).map d).Pairwise (fun x y => ¬ f y x < 0) := by
 rw [List.pairwise_map]
 refine List.Pairwise.imp_of_mem ?_ (List.pairwise_lt_range (n := n))
 intro x y hx hy hxy
 have := h x y (Nat.zero_le _) hxy (List.mem_range.1 hy)
 simpa using this
end Go.Proofs.YtjjnmefihdjglaaGreat
namespace Go.Proofs.YtjjnmefihdjglaaGreat
open Go.RowKit
section
variable {E : Type} {K : Nat} {T : TypeId} {cs : E → List Value}
end
end Go.Proofs.YtjjnmefihdjglaaGreat
