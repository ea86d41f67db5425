import Derived.Test.YtjjnmefihdjglaaGreatKU
import Derived.Test.YtjjnmefihdjglaaGreatKV
import Derived.Test.YtjjnmefihdjglaaGreatKO
import Derived.Test.YtjjnmefihdjglaaGreatKL
set_option maxRecDepth 100000
set_option maxHeartbeats 64000000
set_option linter.all false
namespace Go.Proofs.YtjjnmefihdjglaaGreat
open Go.RowKit
def kp11 (v t : Int) : PtD := ⟨none,0,[],0,false,0,0,v,0,true,t⟩
def kf11 (nm : ByteArray) (k v t : Int) : FamY := ⟨nm,k,⟨#[]⟩,⟨#[]⟩,[(kp11 v t).y]⟩
def kd11 (nm : ByteArray) (k v t : Int) (g : Nat) : FamD := ⟨nm,k,⟨#[]⟩,⟨#[]⟩,some ⟨g,0,none⟩,1,[kp11 v t]⟩
theorem kd11_sm (nm : ByteArray) (k v t : Int) (g : Nat) (h : nm.size ≤ 1000) : (kd11 nm k v t g).y.Sm :=
 ⟨h,by show (0 : Nat) ≤ 1000; decide,by show (0 : Nat) ≤ 1000; decide,by show (1 : Nat) ≤ 1000; decide,fun q hq => by
   have : q = (kp11 v t).y := by simpa [kd11,FamD.y] using hq
   subst this
   show (0 : Nat) ≤ 1000
   decide⟩
theorem kf11_ris (nm : ByteArray) (k v t : Int) : Ris cmpY (kf11 nm k v t).ps := by unfold kf11 Ris; simp
theorem merge11_a : mergeY [(⟨#[116]⟩,[kf11 ⟨#[97]⟩ 1 1 5]),(⟨#[116]⟩,[kf11 ⟨#[98]⟩ 1 2 5]),(⟨#[116]⟩,[kf11 ⟨#[97]⟩ 1 3 5])] = (0,⟨#[116]⟩,[kf11 ⟨#[97]⟩ 1 3 5,kf11 ⟨#[98]⟩ 1 2 5]) := by
 have hp : putY (kf11 ⟨#[97]⟩ 1 1 5) (kf11 ⟨#[97]⟩ 1 3 5) = some (kf11 ⟨#[97]⟩ 1 3 5) := by
  unfold putY
  rw [if_pos ⟨rfl,rfl,by decide +kernel,by decide +kernel⟩]
  have : putH (kf11 ⟨#[97]⟩ 1 1 5) (kf11 ⟨#[97]⟩ 1 3 5) = kf11 ⟨#[97]⟩ 1 3 5 := by
   unfold putH
   have h1 : (kf11 ⟨#[97]⟩ 1 1 5).ps.filter (fun p => !(likeIn p (kf11 ⟨#[97]⟩ 1 3 5).ps)) = [] := by
    rw [List.filter_eq_nil_iff]
    intro p hp
    have : p = (kp11 1 5).y := by simpa [kf11] using hp
    subst this
    decide +kernel
   rw [h1,List.append_nil]
   unfold kf11
   simp
  rw [this]
  exact srt_self (kf11_ris _ _ _ _)
 have h1 : takesY [] [kf11 ⟨#[97]⟩ 1 1 5,kf11 ⟨#[98]⟩ 1 2 5,kf11 ⟨#[97]⟩ 1 3 5] = some [kf11 ⟨#[97]⟩ 1 3 5,kf11 ⟨#[98]⟩ 1 2 5] := by
  rw [takesY,show takeY [] (kf11 ⟨#[97]⟩ 1 1 5) = some [kf11 ⟨#[97]⟩ 1 1 5] from rfl,Option.bind_some,takesY]
  have e2 : takeY [kf11 ⟨#[97]⟩ 1 1 5] (kf11 ⟨#[98]⟩ 1 2 5) = some [kf11 ⟨#[97]⟩ 1 1 5,kf11 ⟨#[98]⟩ 1 2 5] := by
   unfold takeY
   rw [if_pos (by decide +kernel)]
   rfl
  rw [e2,Option.bind_some,takesY]
  have e3 : takeY [kf11 ⟨#[97]⟩ 1 1 5,kf11 ⟨#[98]⟩ 1 2 5] (kf11 ⟨#[97]⟩ 1 3 5) = some [kf11 ⟨#[97]⟩ 1 3 5,kf11 ⟨#[98]⟩ 1 2 5] := by
   unfold takeY
   have en : nmAt (kf11 ⟨#[97]⟩ 1 3 5).nm 0 [kf11 ⟨#[97]⟩ 1 1 5,kf11 ⟨#[98]⟩ 1 2 5] = 0 := by decide +kernel
   rw [en,if_neg (by decide)]
   show (putY (kf11 ⟨#[97]⟩ 1 1 5) (kf11 ⟨#[97]⟩ 1 3 5)).map _ = _
   rw [hp]
   rfl
  rw [e3]
  rfl
 have h2 : sortB [kf11 ⟨#[97]⟩ 1 3 5,kf11 ⟨#[98]⟩ 1 2 5] = some [kf11 ⟨#[97]⟩ 1 3 5,kf11 ⟨#[98]⟩ 1 2 5] := by
  unfold sortB
  rw [srts_self (fun f hf => by
   rcases List.mem_cons.1 hf with rfl | hf
   ·exact kf11_ris _ _ _ _
   ·rw [List.mem_singleton] at hf
    subst hf
    exact kf11_ris _ _ _ _),Option.bind_some]
  refine sortN_some (List.Perm.refl _) ?_
  unfold Ris
  rw [List.pairwise_cons]
  exact ⟨by intro x hx; rw [List.mem_singleton] at hx; subst hx; decide +kernel,by simp⟩
 have hc : ∀ b ∈ [((⟨#[116]⟩ : ByteArray),[kf11 ⟨#[97]⟩ 1 1 5]),(⟨#[116]⟩,[kf11 ⟨#[98]⟩ 1 2 5]),(⟨#[116]⟩,[kf11 ⟨#[97]⟩ 1 3 5])],checkB b.1 b.2 = 0 := by
  intro b hb
  simp only [List.mem_cons,List.not_mem_nil,or_false] at hb
  rcases hb with rfl | rfl | rfl <;> decide +kernel
 have hn : ∀ b ∈ [((⟨#[116]⟩ : ByteArray),[kf11 ⟨#[97]⟩ 1 1 5]),(⟨#[116]⟩,[kf11 ⟨#[98]⟩ 1 2 5]),(⟨#[116]⟩,[kf11 ⟨#[97]⟩ 1 3 5])],b.1 = (⟨#[116]⟩ : ByteArray) := by
  intro b hb
  simp only [List.mem_cons,List.not_mem_nil,or_false] at hb
  rcases hb with rfl | rfl | rfl <;> rfl
 have := mergeY_go hc hn
 rw [this]
 unfold mergeG
 rw [show List.flatMap (fun b : ByteArray × List FamY => b.2) [((⟨#[116]⟩ : ByteArray),[kf11 ⟨#[97]⟩ 1 1 5]),(⟨#[116]⟩,[kf11 ⟨#[98]⟩ 1 2 5]),(⟨#[116]⟩,[kf11 ⟨#[97]⟩ 1 3 5])] = [kf11 ⟨#[97]⟩ 1 1 5,kf11 ⟨#[98]⟩ 1 2 5,kf11 ⟨#[97]⟩ 1 3 5] from rfl,h1]
 dsimp only
 rw [h2]
 dsimp only
 rw [if_pos (by decide +kernel)]
theorem merge11_f : mergeY [(⟨#[116]⟩,[kf11 ⟨#[97]⟩ 1 1 5]),(⟨#[116]⟩,[kf11 ⟨#[97]⟩ 2 1 6])] = (13,⟨#[]⟩,[]) := by
 have hc : ∀ b ∈ [((⟨#[116]⟩ : ByteArray),[kf11 ⟨#[97]⟩ 1 1 5]),(⟨#[116]⟩,[kf11 ⟨#[97]⟩ 2 1 6])],checkB b.1 b.2 = 0 := by
  intro b hb
  simp only [List.mem_cons,List.not_mem_nil,or_false] at hb
  rcases hb with rfl | rfl <;> decide +kernel
 have hn : ∀ b ∈ [((⟨#[116]⟩ : ByteArray),[kf11 ⟨#[97]⟩ 1 1 5]),(⟨#[116]⟩,[kf11 ⟨#[97]⟩ 2 1 6])],b.1 = (⟨#[116]⟩ : ByteArray) := by
  intro b hb
  simp only [List.mem_cons,List.not_mem_nil,or_false] at hb
  rcases hb with rfl | rfl <;> rfl
 rw [mergeY_go hc hn]
 unfold mergeG
 have h1 : takesY [] [kf11 ⟨#[97]⟩ 1 1 5,kf11 ⟨#[97]⟩ 2 1 6] = none := by
  rw [takesY,show takeY [] (kf11 ⟨#[97]⟩ 1 1 5) = some [kf11 ⟨#[97]⟩ 1 1 5] from rfl,Option.bind_some,takesY]
  have e2 : takeY [kf11 ⟨#[97]⟩ 1 1 5] (kf11 ⟨#[97]⟩ 2 1 6) = none := by
   unfold takeY
   have en : nmAt (kf11 ⟨#[97]⟩ 2 1 6).nm 0 [kf11 ⟨#[97]⟩ 1 1 5] = 0 := by decide +kernel
   rw [en,if_neg (by decide)]
   show (putY (kf11 ⟨#[97]⟩ 1 1 5) (kf11 ⟨#[97]⟩ 2 1 6)).map _ = _
   unfold putY
   rw [if_neg (fun h => absurd h.2.1 (by decide +kernel))]
   rfl
  rw [e2]
  rfl
 rw [show List.flatMap (fun b : ByteArray × List FamY => b.2) [((⟨#[116]⟩ : ByteArray),[kf11 ⟨#[97]⟩ 1 1 5]),(⟨#[116]⟩,[kf11 ⟨#[97]⟩ 2 1 6])] = [kf11 ⟨#[97]⟩ 1 1 5,kf11 ⟨#[97]⟩ 2 1 6] from rfl,h1]
theorem merge11_g : mergeY [(⟨#[116]⟩,[kf11 ⟨#[97]⟩ 1 1 5]),(⟨#[117]⟩,[])] = (18,⟨#[]⟩,[]) := by
 refine mergeY_18 (fun b hb => ?_) (b := (⟨#[117]⟩,[])) (by simp) (by decide +kernel)
 simp only [List.mem_cons,List.not_mem_nil,or_false] at hb
 rcases hb with rfl | rfl <;> decide +kernel
theorem one_any (nm : ByteArray) (k v t : Int) (w : World) (hv : I64 v) :
  Calls Tryz.prog 32 #[.string nm,.int .i64 k,.int .i64 v,.int .i64 t] w fun e w' => (∃ g h,e = .returned (.agg #[.string ⟨#[116]⟩,.slice (some ⟨g,0,none⟩) 1 1]) ∧ FamsA (some ⟨g,0,none⟩) [kd11 nm k v t h] w') ∧ Ext w w' := by
 obtain ⟨W,hW⟩ : ∃ W,((w.alloc (.cells #[.string ⟨#[116]⟩,.slice (some ⟨w.heap.size + 1 + 1,0,none⟩) 1 1] 27)).alloc (.cells #[.slice none 0 0,.int .i64 0,.bool false,.int .i64 0,.int .i64 0,.int .i64 v,.int .i64 0,.bool true,.int .i64 t] 40)).alloc
   (.cells #[.string nm,.int .i64 k,.string ⟨#[]⟩,.string ⟨#[]⟩,.slice (some ⟨w.heap.size + 1,0,none⟩) 1 1] 35) = W := ⟨_,rfl⟩
 have x1 : Ext w W := by rw [← hW]; exact (((Ext.refl w).alloc _).alloc _).alloc _
 have gB : BatIn w.heap.size ⟨#[116]⟩ (.slice (some ⟨w.heap.size + 1 + 1,0,none⟩) 1 1) W := by rw [← hW]; exact BatIn.ext (heap_at2a _ _ _) ((Ext.refl _).alloc _)
 have h2 : W.heap[w.heap.size + 1]? = some (.cells #[.slice none 0 0,.int .i64 0,.bool false,.int .i64 0,.int .i64 0,.int .i64 v,.int .i64 0,.bool true,.int .i64 t] 40 (0,0)) := by
  rw [← hW]
  exact (((Ext.refl _).alloc _).heap (by simp)).trans (heap_at2b _ _ _)
 have h3 : W.heap[w.heap.size + 1 + 1]? = some (.cells #[.string nm,.int .i64 k,.string ⟨#[]⟩,.string ⟨#[]⟩,.slice (some ⟨w.heap.size + 1,0,none⟩) 1 1] 35 (0,0)) := by
  rw [← hW]
  have := heap_last ((w.alloc (.cells #[.string ⟨#[116]⟩,.slice (some ⟨w.heap.size + 1 + 1,0,none⟩) 1 1] 27)).alloc (.cells #[.slice none 0 0,.int .i64 0,.bool false,.int .i64 0,.int .i64 0,.int .i64 v,.int .i64 0,.bool true,.int .i64 t] 40)) (.cells #[.string nm,.int .i64 k,.string ⟨#[]⟩,.string ⟨#[]⟩,.slice (some ⟨w.heap.size + 1,0,none⟩) 1 1] 35)
  rw [heap_size_alloc,heap_size_alloc] at this
  exact this
 have hP : PtsA (some ⟨w.heap.size + 1,0,none⟩) [kp11 v t] W := by
  refine ⟨fun _ => ⟨_,0,rfl,(Array.getElem?_eq_some_iff.1 h2).1,fun i hi => ?_⟩,fun p hp => ?_⟩
  ·simp only [Lib.cell_of_heap h2]
   match i,hi with
   | 0,_ => exact ⟨rfl,rfl,rfl,rfl,rfl,rfl,rfl,rfl,rfl⟩
  ·rw [List.mem_singleton] at hp
   subst hp
   exact ⟨by simp [kp11],LabA.nil _ _,by intro x hx; simp [kp11] at hx,by simp [kp11,I64],by unfold kp11; exact ⟨hv,by simp [I64]⟩⟩
 have hF : FamsA (some ⟨w.heap.size + 1 + 1,0,none⟩) [kd11 nm k v t (w.heap.size + 1)] W := FamsA.oneF (f := kd11 nm k v t (w.heap.size + 1)) h3 hP
 replace hW := Lib.hid hW
 obtain ⟨c0,c1⟩ := gB.cells
 clear h2 h3 hP gB
 go_enter Tryz.func32,Tryz.ntmps32
 go_wp2_with fail
 rw [hW.out]
 refine bodyPost_ret (v := .agg #[.string ⟨#[116]⟩,.slice (some ⟨w.heap.size + 1 + 1,0,none⟩) 1 1]) ?_ rfl ⟨⟨_,_,rfl,hF⟩,x1⟩
 simp [results,Tryz.results32,go_sem,c0,c1]
theorem MergeTold.is {bs : List (ByteArray × List FamY)} {base : Nat} {e : Ending} {w' : World} (h : MergeTold bs base e w') {r : Int} {tn : ByteArray} {M : List FamY} (hm : mergeY bs = (r,tn,M)) :
  ∃ (a : Option Addr) (c : Nat) (L : List FamD),L.map FamD.y = M ∧ e = .returned (.tuple #[.agg #[.string tn,.slice a L.length c],.int .i64 r]) ∧ OwnF base (.slice a L.length c) L w' := by
 obtain ⟨r',tn',a,c,L,h1,h2,h3⟩ := h
 rw [hm] at h1
 injection h1 with h4 h5
 injection h5 with h5 h6
 subst h4 h5
 exact ⟨a,c,L,h6.symm,h2,h3⟩
theorem bats2 {g : Nat} {b1 b2 : BatD} {w : World} (h : w.heap[g]? = some (.cells #[.string b1.tn,.slice b1.fa b1.fs.length b1.fc,.string b2.tn,.slice b2.fa b2.fs.length b2.fc] 27 (0,0))) (f1 : FamsA b1.fa b1.fs w) (f2 : FamsA b2.fa b2.fs w) : BatsA (some ⟨g,0,none⟩) [b1,b2] w := by
 refine ⟨fun _ => ⟨g,0,rfl,(Array.getElem?_eq_some_iff.1 h).1,fun i hi => ?_⟩,fun x hx => ?_⟩
 ·simp only [Lib.cell_of_heap h]
  match i,hi with
  | 0,_ => exact ⟨rfl,rfl⟩
  | 1,_ => exact ⟨rfl,rfl⟩
 ·simp only [List.mem_cons,List.not_mem_nil,or_false] at hx
  rcases hx with rfl | rfl
  ·exact f1
  ·exact f2
theorem bats3 {g : Nat} {b1 b2 b3 : BatD} {w : World} (h : w.heap[g]? = some (.cells #[.string b1.tn,.slice b1.fa b1.fs.length b1.fc,.string b2.tn,.slice b2.fa b2.fs.length b2.fc,.string b3.tn,.slice b3.fa b3.fs.length b3.fc] 27 (0,0))) (f1 : FamsA b1.fa b1.fs w) (f2 : FamsA b2.fa b2.fs w) (f3 : FamsA b3.fa b3.fs w) : BatsA (some ⟨g,0,none⟩) [b1,b2,b3] w := by
 refine ⟨fun _ => ⟨g,0,rfl,(Array.getElem?_eq_some_iff.1 h).1,fun i hi => ?_⟩,fun x hx => ?_⟩
 ·simp only [Lib.cell_of_heap h]
  match i,hi with
  | 0,_ => exact ⟨rfl,rfl⟩
  | 1,_ => exact ⟨rfl,rfl⟩
  | 2,_ => exact ⟨rfl,rfl⟩
 ·simp only [List.mem_cons,List.not_mem_nil,or_false] at hx
  rcases hx with rfl | rfl | rfl
  ·exact f1
  ·exact f2
  ·exact f3
def bd11 (nm : ByteArray) (k v t : Int) (g h : Nat) : BatD := ⟨⟨#[116]⟩,some ⟨g,0,none⟩,1,[kd11 nm k v t h]⟩
theorem bd11_ok (nm : ByteArray) (k v t : Int) (g h : Nat) (hn : nm.size ≤ 1000) : (bd11 nm k v t g h).fs.length ≤ 1000000 ∧ (bd11 nm k v t g h).tn.size ≤ 1000000 ∧ ∀ f ∈ (bd11 nm k v t g h).fs,f.y.Sm :=
 ⟨by show (1 : Nat) ≤ 1000000; decide,by show (1 : Nat) ≤ 1000000; decide,fun f hf => by
   have : f = kd11 nm k v t h := by simpa [bd11] using hf
   subst this
   exact kd11_sm _ _ _ _ _ hn⟩
theorem pts_one {f : FamD} {y : PtY} (h : f.y.ps = [y]) : ∃ p,f.ps = [p] ∧ p.y = y := by
 have h1 : f.ps.map PtD.y = [y] := h
 cases hf : f.ps with
 | nil => rw [hf] at h1; cases h1
 | cons p l =>
   rw [hf] at h1
   cases l with
   | nil => simp at h1; exact ⟨p,rfl,h1⟩
   | cons q l => cases h1
theorem known11_any (w : World) : Calls Tryz.prog 10 #[] w fun e w' => e = .returned (.bool true) ∧ Ext w w' := by
 have A1 := fun W => one_any ⟨#[97]⟩ 1 1 5 W (by simp [I64])
 have B2 := fun W => one_any ⟨#[98]⟩ 1 2 5 W (by simp [I64])
 have A3 := fun W => one_any ⟨#[97]⟩ 1 3 5 W (by simp [I64])
 have C6 := fun W => one_any ⟨#[97]⟩ 2 1 6 W (by simp [I64])
 go_enter Tryz.func10,Tryz.ntmps10
 go_wp2_with fail
 (with_reducible refine (A1 _).mono ?_)
 rintro e w1 ⟨⟨g1,h1,rfl,p1⟩,x1⟩
 go_wp2_with fail
 (with_reducible refine (B2 _).mono ?_)
 rintro e w2 ⟨⟨g2,h2,rfl,p2⟩,x2⟩
 go_wp2_with fail
 (with_reducible refine (A3 _).mono ?_)
 rintro e w3 ⟨⟨g3,h3,rfl,p3⟩,x3⟩
 have xs := (Ext.refl w3).alloc (.cells #[.string ⟨#[116]⟩,.slice (some ⟨g1,0,none⟩) 1 1,.string ⟨#[116]⟩,.slice (some ⟨g2,0,none⟩) 1 1,.string ⟨#[116]⟩,.slice (some ⟨g3,0,none⟩) 1 1] 27)
 have hB := bats3 (b1 := bd11 ⟨#[97]⟩ 1 1 5 g1 h1) (b2 := bd11 ⟨#[98]⟩ 1 2 5 g2 h2) (b3 := bd11 ⟨#[97]⟩ 1 3 5 g3 h3) (heap_last w3 (.cells #[.string ⟨#[116]⟩,.slice (some ⟨g1,0,none⟩) 1 1,.string ⟨#[116]⟩,.slice (some ⟨g2,0,none⟩) 1 1,.string ⟨#[116]⟩,.slice (some ⟨g3,0,none⟩) 1 1] 27)) (p1.ext ((x2.trans x3).trans xs)) (p2.ext (x3.trans xs)) (p3.ext xs)
 have ME := merge_any _ 3 _ _ hB (by simp) (fun x hx => by
  simp only [List.mem_cons,List.not_mem_nil,or_false] at hx
  rcases hx with rfl | rfl | rfl <;> exact bd11_ok _ _ _ _ _ _ (by decide))
 change Calls _ _ #[.slice (some ⟨w3.heap.size,0,none⟩) 3 3] _ _ at ME
 clear p1 p2 p3 hB
 go_wp2_with fail
 (with_reducible refine ME.mono ?_)
 rintro e w4 ⟨hm,x4⟩
 obtain ⟨aa,ca,L,hL,rfl,hO⟩ := hm.is merge11_a
 replace x4 := (((x1.trans x2).trans x3).trans xs).trans x4
 clear ME hm xs x1 x2 x3
 obtain ⟨f1,f2,rfl,hy1,hy2⟩ := two_of_map hL
 have hb1 : f1.y.Sm := by rw [hy1]; exact kd11_sm ⟨#[97]⟩ 1 3 5 0 (by decide)
 have hb2 : f2.y.Sm := by rw [hy2]; exact kd11_sm ⟨#[98]⟩ 1 2 5 0 (by decide)
 have hsL : ∀ f ∈ [f1,f2],f.y.Sm := fun f hf => by
  simp only [List.mem_cons,List.not_mem_nil,or_false] at hf
  rcases hf with rfl | rfl
  ·exact hb1
  ·exact hb2
 obtain ⟨aa',ca',hav,hF⟩ := hO.fams
 injection hav with q1 q2 q3
 subst q1 q3
 obtain ⟨fb,fo,rfl,hfb,hFt⟩ := hF.1 (by simp)
 obtain ⟨z0,_,_,_,z4⟩ := hFt 0 (by simp)
 rw [Nat.zero_mul,Nat.add_zero] at z0 z4
 change w4.cell? ⟨fb,fo + 4,none⟩ = some (.slice f1.pa f1.ps.length f1.pc) at z4
 obtain ⟨pp,hpp,hpy⟩ := pts_one (f := f1) (y := (kp11 3 5).y) (by rw [hy1]; rfl)
 have hPA := hF.2 f1 (by simp)
 obtain ⟨pb,po,hpe,hpb,hPt⟩ := hPA.1 (by rw [hpp]; simp)
 have z5 := (hPt 0 (by rw [hpp]; simp)).2.2.2.2.2.1
 rw [Nat.zero_mul,Nat.add_zero] at z5
 simp only [hpp,List.getElem_cons_zero] at z5
 have hpm : pp.m = 3 := congrArg (fun y : PtY => y.2.1) hpy
 rw [hpm] at z5
 rw [hpp,hpe] at z4
 have hmap : ([f1,f2].map FamD.y).filter (fun f => !(decide (f.nm ∈ [(⟨#[97]⟩ : ByteArray)]))) = [kf11 ⟨#[98]⟩ 1 2 5] := by
  rw [List.map_cons,List.map_cons,List.map_nil,hy1,hy2]
  have e1 : (!(decide ((kf11 ⟨#[97]⟩ 1 3 5).nm ∈ [(⟨#[97]⟩ : ByteArray)]))) = false := by decide +kernel
  have e2 : (!(decide ((kf11 ⟨#[98]⟩ 1 2 5).nm ∈ [(⟨#[97]⟩ : ByteArray)]))) = true := by decide +kernel
  simp only [List.filter_cons,e1,e2,List.filter_nil]
  rfl
 have hbIn : BatIn w4.heap.size ⟨#[116]⟩ (.slice (some ⟨fb,fo,none⟩) 2 ca) (w4.alloc (.cells #[.string ⟨#[116]⟩,.slice (some ⟨fb,fo,none⟩) 2 ca] 27)) := heap_last _ _
 have xa := (Ext.refl w4).alloc (.cells #[.string ⟨#[116]⟩,.slice (some ⟨fb,fo,none⟩) 2 ca] 27)
 replace hmap := Lib.hid hmap
 clear hO hL hy1 hy2 hb1 hb2 hFt hpp hpy hPA hPt hpm q2
 go_wp2_with fail
 (with_reducible refine (A1 _).mono ?_)
 rintro e w5 ⟨⟨g1,h1,rfl,p1⟩,x1⟩
 go_wp2_with fail
 (with_reducible refine (C6 _).mono ?_)
 rintro e w6 ⟨⟨g2,h2,rfl,p2⟩,x2⟩
 have xs := (Ext.refl w6).alloc (.cells #[.string ⟨#[116]⟩,.slice (some ⟨g1,0,none⟩) 1 1,.string ⟨#[116]⟩,.slice (some ⟨g2,0,none⟩) 1 1] 27)
 have hB := bats2 (b1 := bd11 ⟨#[97]⟩ 1 1 5 g1 h1) (b2 := bd11 ⟨#[97]⟩ 2 1 6 g2 h2) (heap_last w6 (.cells #[.string ⟨#[116]⟩,.slice (some ⟨g1,0,none⟩) 1 1,.string ⟨#[116]⟩,.slice (some ⟨g2,0,none⟩) 1 1] 27)) (p1.ext (x2.trans xs)) (p2.ext xs)
 have ME := merge_any _ 2 _ _ hB (by simp) (fun x hx => by
  simp only [List.mem_cons,List.not_mem_nil,or_false] at hx
  rcases hx with rfl | rfl <;> exact bd11_ok _ _ _ _ _ _ (by decide))
 change Calls _ _ #[.slice (some ⟨w6.heap.size,0,none⟩) 2 2] _ _ at ME
 clear p1 p2 hB
 go_wp2_with fail
 (with_reducible refine ME.mono ?_)
 rintro e w7 ⟨hm,x7⟩
 obtain ⟨ab,cb,Lb,hLb,rfl,_⟩ := hm.is merge11_f
 obtain rfl : Lb = [] := by cases Lb with
  | nil => rfl
  | cons x l => cases hLb
 have y7 := ((x1.trans x2).trans xs).trans x7
 replace hbIn := hbIn.ext y7
 replace xa := xa.trans y7
 clear ME hm xs x1 x2 x7 hLb y7
 have xb := (Ext.refl w7).alloc (.cells #[.string ⟨#[]⟩,.slice ab 0 cb] 27)
 go_wp2_with fail
 (with_reducible refine (A1 _).mono ?_)
 rintro e w8 ⟨⟨g1,h1,rfl,p1⟩,x1⟩
 have xs := (Ext.refl w8).alloc (.cells #[.string ⟨#[116]⟩,.slice (some ⟨g1,0,none⟩) 1 1,.string ⟨#[117]⟩,.slice none 0 0] 27)
 have hB := bats2 (b1 := bd11 ⟨#[97]⟩ 1 1 5 g1 h1) (b2 := ⟨⟨#[117]⟩,none,0,[]⟩) (heap_last w8 (.cells #[.string ⟨#[116]⟩,.slice (some ⟨g1,0,none⟩) 1 1,.string ⟨#[117]⟩,.slice none 0 0] 27)) (p1.ext xs) (FamsA.nil _ _)
 have ME := merge_any _ 2 _ _ hB (by simp) (fun x hx => by
  simp only [List.mem_cons,List.not_mem_nil,or_false] at hx
  rcases hx with rfl | rfl
  ·exact bd11_ok _ _ _ _ _ _ (by decide)
  ·exact ⟨by simp,by show (1 : Nat) ≤ 1000000; decide,by intro f hf; cases hf⟩)
 change Calls _ _ #[.slice (some ⟨w8.heap.size,0,none⟩) 2 2] _ _ at ME
 clear p1 hB
 go_wp2_with fail
 (with_reducible refine ME.mono ?_)
 rintro e w9 ⟨hm,x9⟩
 obtain ⟨ac,cc,Lc,hLc,rfl,_⟩ := hm.is merge11_g
 obtain rfl : Lc = [] := by cases Lc with
  | nil => rfl
  | cons x l => cases hLc
 have y9 := ((xb.trans x1).trans xs).trans x9
 replace hbIn := hbIn.ext y9
 replace xa := xa.trans y9
 clear ME hm xs x1 x9 hLc y9 xb
 have xb := (Ext.refl w9).alloc (.cells #[.string ⟨#[]⟩,.slice ac 0 cc] 27)
 have ME := merge_any none 0 [] (w9.alloc (.cells #[.string ⟨#[]⟩,.slice ac 0 cc] 27)) (BatsA.nil _ _) (by simp) (by intro x hx; cases hx)
 change Calls _ _ #[.slice none 0 0] _ _ at ME
 go_wp2_with fail
 (with_reducible refine ME.mono ?_)
 rintro e w10 ⟨hm,x10⟩
 obtain ⟨ad,cd,Ld,hLd,rfl,_⟩ := hm.is (r := 0) (tn := ⟨#[]⟩) (M := []) rfl
 obtain rfl : Ld = [] := by cases Ld with
  | nil => rfl
  | cons x l => cases hLd
 have y10 := xb.trans x10
 replace hbIn := hbIn.ext y10
 replace xa := xa.trans y10
 clear ME hm x10 hLd y10 xb
 have xb := (Ext.refl w10).alloc (.cells #[.string ⟨#[]⟩,.slice ad 0 cd] 27)
 have gE : BatIn w10.heap.size ⟨#[]⟩ (.slice ad 0 cd) (w10.alloc (.cells #[.string ⟨#[]⟩,.slice ad 0 cd] 27)) := heap_last _ _
 replace hbIn := hbIn.ext xb
 replace xa := xa.trans xb
 obtain ⟨WW,hWW⟩ : ∃ WW,w10.alloc (.cells #[.string ⟨#[]⟩,.slice ad 0 cd] 27) = WW := ⟨_,rfl⟩
 obtain ⟨d0,d1⟩ := hbIn.cells
 have xn := (Ext.refl WW).alloc (.cells #[.string ⟨#[97]⟩] 9)
 have hN : StrsA (some ⟨WW.heap.size,0,none⟩) [⟨#[97]⟩] (WW.alloc (.cells #[.string ⟨#[97]⟩] 9)) := fun _ => by
  have hl : (WW.alloc (.cells #[.string ⟨#[97]⟩] 9)).heap[WW.heap.size]? = some (.cells #[.string ⟨#[97]⟩] 9 (0,0)) := heap_last _ _
  refine ⟨WW.heap.size,0,rfl,(Array.getElem?_eq_some_iff.1 hl).1,fun i hi => ?_⟩
  rw [Lib.cell_of_heap hl]
  match i,hi with
  | 0,_ => rfl
 rw [hWW] at hbIn gE xa d0 d1
 have MI := minus_any ⟨#[116]⟩ (some ⟨fb,fo,none⟩) ca [f1,f2] (some ⟨WW.heap.size,0,none⟩) 1 [⟨#[97]⟩] (WW.alloc (.cells #[.string ⟨#[97]⟩] 9)) (by simp) (hF.ext (xa.trans xn)) hsL hN (by simp)
 rw [hmap.out] at MI
 change Calls _ _ #[.agg #[.string ⟨#[116]⟩,.slice (some ⟨fb,fo,none⟩) 2 ca],.slice (some ⟨WW.heap.size,0,none⟩) 1 1] _ _ at MI
 clear hN hF hsL hmap
 go_wp2_with fail
 (with_reducible refine MI.mono ?_)
 rintro e w11 ⟨⟨vK,LK,rfl,hyK,hOK⟩,x11⟩
 obtain ⟨aK,cK,rfl,hFK⟩ := hOK.fams
 obtain ⟨fK,hLK⟩ : ∃ f,LK = [f] := by
  cases LK with
  | nil => exact absurd (congrArg List.length hyK) (by simp)
  | cons f l =>
    cases l with
    | nil => exact ⟨f,rfl⟩
    | cons g l => exact absurd (congrArg List.length hyK) (by simp)
 subst hLK
 rw [List.map_cons,List.map_nil] at hyK
 injection hyK with hyK _
 have hnK : fK.nm = ⟨#[98]⟩ := congrArg FamY.nm hyK
 obtain ⟨kb,ko,rfl,hkb,hKt⟩ := hFK.1 (by simp)
 obtain ⟨k0,_,_,_,_⟩ := hKt 0 (by simp)
 rw [Nat.zero_mul,Nat.add_zero] at k0
 replace k0 : w11.cell? ⟨kb,ko,none⟩ = some (.string ⟨#[98]⟩) := by rw [k0]; exact congrArg (fun z => some (Value.string z)) hnK
 have xm := (Ext.refl w11).alloc (.cells #[.string ⟨#[116]⟩,.slice (some ⟨kb,ko,none⟩) 1 cK] 27)
 have gM : BatIn w11.heap.size ⟨#[116]⟩ (.slice (some ⟨kb,ko,none⟩) 1 cK) (w11.alloc (.cells #[.string ⟨#[116]⟩,.slice (some ⟨kb,ko,none⟩) 1 cK] 27)) := heap_last _ _
 have xe := (xn.trans x11).trans xm
 replace hbIn := hbIn.ext xe
 replace gE := gE.ext xe
 replace xa := xa.trans xe
 replace k0 := (Ext.cell xm hkb).trans k0
 replace z4 := (Ext.cell xa hfb).trans z4
 replace z5 := (Ext.cell xa hpb).trans z5
 clear d0 d1 MI hyK hOK hFK hKt hnK xn x11 xm xe z0
 obtain ⟨d0,d1⟩ := hbIn.cells
 obtain ⟨e0,e1⟩ := gE.cells
 obtain ⟨m0,m1⟩ := gM.cells
 clear hbIn gE gM
 go_wp2_with fail
 go_ret
 exact ⟨rfl,x4.trans xa⟩
theorem nmAt_none {nm : ByteArray} {l : List FamY} (h : ∀ f ∈ l,f.nm ≠ nm) : nmAt nm 0 l = -1 := by
 rcases nmAt_cases nm l 0 with ⟨h1,_⟩ | ⟨j,hj,_,h2⟩
 ·exact h1
 ·exact absurd h2 (h _ (List.getElem_mem hj))
theorem GoodB.names {tn : ByteArray} {L : List FamY} (h : GoodB tn L) : L.Pairwise (fun x y => x.nm ≠ y.nm) :=
 h.risN.imp (fun {x y} hxy e => by
  have h0 : cmpNm x y = 0 := by unfold cmpNm; rw [e]; exact cmpS_cmp.refl _
  omega)
theorem goodF_parts {f : FamY} (h : goodF f = true) : nameB f.nm = true ∧ (0 ≤ f.k ∧ f.k ≤ 4) ∧ valueB f.un = true ∧ valueB f.he = true := by
 unfold goodF goodFamY at h
 simp only [Bool.and_eq_true,Bool.not_eq_true',decide_eq_false_iff_not] at h
 exact ⟨h.1.1,by have := h.1.2.1; omega,h.1.2.2.1,h.1.2.2.2⟩
end Go.Proofs.YtjjnmefihdjglaaGreat
