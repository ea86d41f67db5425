import Derived.Test.YtjjnmefihdjglaaGreatKA
import Derived.ProofKit
import Derived.OpenShut
import Derived.ShutString
import Derived.SliceStrings
import Derived.Test.YtjjnmefihdjglaaGreatKB
import Derived.Lib.SmallJoins
import Derived.Deep.SlicePairs
import Derived.Test.YtjjnmefihdjglaaGreatKF
set_option maxRecDepth 100000
set_option maxHeartbeats 64000000
set_option linter.all false
namespace Go.Proofs.YtjjnmefihdjglaaGreat
open Go.ChangeShapes Go.WideShapes Go.ChangeAt Go.RowKit
open Go.ChangeMaps (open_string shut_string)
theorem ownP : ownKnob Tryz.prog.godebug = none := by kernel_rfl
theorem laidOutP : laidOutB Tryz.prog = true := by kernel_rfl
theorem post_ext {H : Type} {enc : TypeId × Value → H} {P : Program} {f : Func} {s : ChangeSpec} {apart fresh handsOn : Bool} {W W' : World} {args : Array Value} {v : Value} {ds gs : List (DataW H)} {before pa pv : List MemPlace}
  (hW : DataW.Whole enc P f.params.toList s.vars apart W args.toList ds gs before)
  (hres : ∀ (b : Nat) (sp : Nat → Bool) (hd : Bool),DataW.TrodAll enc P W' b sp hd f.resultTypes.toList (v.resultList f.resultTypes.size) (s.fn H (ds ++ gs)).results [])
  (hargs : DataW.TrodAll enc P W' 0 (fun b => decide (b < W.heap.size)) true f.params.toList args.toList (s.fn H (ds ++ gs)).args pa)
  (hvars : DataW.TrodVars enc P W' (fun b => decide (b < W.heap.size)) s.vars (s.fn H (ds ++ gs)).vars pv)
  (hx : Ext W W') : s.post enc P f apart fresh handsOn false W args v W' :=
 ⟨ds,gs,before,[],pa,pv,hW,hres _ _ _,hargs,hvars,Below.frame hx _,fun h => by cases h⟩
end Go.Proofs.YtjjnmefihdjglaaGreat
namespace Go.Proofs.YtjjnmefihdjglaaGreat
open Go.ChangeShapes Go.WideShapes Go.ChangeAt Go.RowKit Go.Deep
theorem spot_of_cell {w : World} {a : Addr} {v : Value} (h : w.cell? a = some v) : a.spot = none := by
 unfold World.cell? at h
 split at h
 ·split at h
  ·cases h
  ·rename_i hs
   simpa using hs
 ·cases h
theorem block_add (a : Addr) (n : Nat) : (a.add n).block = a.block := by unfold Addr.add; split <;> rfl
theorem openLabs {H : Type} {enc : TypeId × Value → H} {W : World} {fuel : Nat} {cs : List Value} {x : DataW H × List MemPlace}
  (hf : DataW.trod enc Tryz.prog W 0 (fun _ => true) true fuel 36 cs = some x) :
  ∃ (A : Option Addr) (c : Nat) (l : List (ByteArray × ByteArray)),cs = [.slice A l.length c] ∧ (l.length : Int) ≤ 9223372036854775807 ∧ LabA A l W ∧ (∀ x ∈ l,x.1.size ≤ 9223372036854775807 ∧ x.2.size ≤ 9223372036854775807) := by
 rcases open_slice_pairs Tryz.underlying36 Tryz.underlying69 (by kernel_rfl) (by kernel_rfl) (by kernel_rfl) (by kernel_rfl) (by kernel_rfl) hf with ⟨hcs,_⟩ | ⟨a,len,cap,m,n,V0,V1,D0,D1,P0,P1,hcs,_,hl,hm,hmm,_,hi⟩
 ·exact ⟨none,0,[],hcs,by simp,fun h => by simp at h,fun x hx => by cases hx⟩
 ·unfold maxLen at hm
  simp only [if_true] at hmm
  have each : ∀ i,i < len → ∃ d : ByteArray × ByteArray,W.cell? (a.add (i * 2)) = some (.string d.1) ∧ W.cell? (a.add (i * 2 + 1)) = some (.string d.2) ∧ d.1.size ≤ 9223372036854775807 ∧ d.2.size ≤ 9223372036854775807 := by
   intro i hlt
   obtain ⟨c0,c1,t0,t1⟩ := hi i (by omega)
   obtain ⟨M,e0,_,w0⟩ := DataW.trod_string Tryz.underlying9 t0
   obtain ⟨S,e1,_,w1⟩ := DataW.trod_string Tryz.underlying9 t1
   injection e0 with e0 _
   injection e1 with e1 _
   unfold maxLen at w0 w1
   exact ⟨(M,S),by rw [c0,e0],by rw [c1,e1],by dsimp only; omega,by dsimp only; omega⟩
  have pick : ∃ f : Nat → ByteArray × ByteArray,∀ i,i < len → W.cell? (a.add (i * 2)) = some (.string (f i).1) ∧ W.cell? (a.add (i * 2 + 1)) = some (.string (f i).2) ∧ (f i).1.size ≤ 9223372036854775807 ∧ (f i).2.size ≤ 9223372036854775807 := by
   refine ⟨fun i => if h : i < len then Classical.choose (each i h) else (⟨#[]⟩,⟨#[]⟩),fun i hlt => ?_⟩
   simp only [hlt,dif_pos]
   exact Classical.choose_spec (each i hlt)
  obtain ⟨f,hf'⟩ := pick
  have hlen : ((List.range len).map f).length = len := by simp
  refine ⟨some a,cap,(List.range len).map f,by rw [hlen]; exact hcs,by rw [hlen]; omega,fun h0 => ?_,fun x hx => ?_⟩
  ·rw [hlen] at h0
   obtain ⟨g0,_⟩ := hf' 0 h0
   have hs : a.spot = none := spot_of_cell g0
   have hb := World.block_lt_of_cell? W _ g0
   rw [block_add] at hb
   obtain ⟨b,o,sp⟩ := a
   simp only at hs
   subst hs
   refine ⟨b,o,rfl,hb,fun i hlt => ?_⟩
   have hlt' : i < len := by simpa using hlt
   obtain ⟨q0,q1,_⟩ := hf' i hlt'
   rw [Addr.add_lit] at q0 q1
   have e : ((List.range len).map f)[i] = f i := by simp
   rw [e]
   exact ⟨q0,by rw [Nat.add_assoc]; exact q1⟩
  ·obtain ⟨i,hi1,rfl⟩ := List.mem_map.1 hx
   obtain ⟨_,_,q2,q3⟩ := hf' i (List.mem_range.1 hi1)
   exact ⟨q2,q3⟩
theorem decCells {H : Type} {enc : TypeId × Value → H} {W : World} {fuel : Nat} {c0 c1 : Value} {x : DataW H × List MemPlace}
  (hf : DataW.trod enc Tryz.prog W 0 (fun _ => true) true fuel 38 [c0,c1] = some x) :
  ∃ M S : Int,c0 = .int .i64 M ∧ c1 = .int .i64 S ∧ I64 M ∧ I64 S := by
 obtain ⟨y0,y1,n,_,_,h0,h1⟩ := trod_struct2 Tryz.underlying38 hf
 have e0 : Tryz.prog.cellsOf 2 = 1 := by kernel_rfl
 have e1 : Tryz.prog.cellsOf 3 = 1 := by kernel_rfl
 dsimp only at h0 h1
 rw [e0] at h0
 rw [e1] at h1
 obtain ⟨M,z0,_,w0⟩ := DataW.trod_int Tryz.underlying2 h0
 obtain ⟨S,z1,_,w1⟩ := DataW.trod_int Tryz.underlying3 h1
 simp only [List.drop,List.take,List.cons.injEq,and_true] at z0 z1
 exact ⟨M,S,z0,z1,bounds_i64 w0,bounds_i64 w1⟩
end Go.Proofs.YtjjnmefihdjglaaGreat
namespace Go.Proofs.YtjjnmefihdjglaaGreat
open Go.ChangeShapes Go.WideShapes Go.ChangeAt Go.RowKit
end Go.Proofs.YtjjnmefihdjglaaGreat
namespace Go.Proofs.YtjjnmefihdjglaaGreat
open Go.ChangeShapes Go.WideShapes Go.ChangeAt Go.RowKit Go.Deep
theorem ptCells {H : Type} {enc : TypeId × Value → H} {W : World} {fuel : Nat} {c0 c1 c2 c3 c4 c5 c6 c7 c8 : Value} {x : DataW H × List MemPlace}
  (hf : DataW.trod enc Tryz.prog W 0 (fun _ => true) true fuel 40 [c0,c1,c2,c3,c4,c5,c6,c7,c8] = some x) :
  ∃ p : PtD,[c0,c1,c2,c3,c4,c5,c6,c7,c8] = [.slice p.a p.l.length p.c,.int .i64 p.r,.bool p.f,.int .i64 p.M,.int .i64 p.S,.int .i64 p.m,.int .i64 p.s,.bool p.t,.int .i64 p.T] ∧ p.Ok W ∧ I64 p.r ∧ I64 p.T := by
 obtain ⟨xs,n,_,_,_,hlen,hall⟩ := DataW.trod_struct Tryz.underlying40 hf
 have hx : ∀ i,i < 7 → ∃ y,xs[i]? = some y := fun i hi => ⟨xs[i]'(by rw [hlen]; exact hi),List.getElem?_eq_getElem _⟩
 have e0 : Tryz.prog.cellsOf 36 = 1 := by kernel_rfl
 have e1 : Tryz.prog.cellsOf 3 = 1 := by kernel_rfl
 have e2 : Tryz.prog.cellsOf 4 = 1 := by kernel_rfl
 have e3 : Tryz.prog.cellsOf 38 = 2 := by kernel_rfl
 have e4 : Tryz.prog.cellsOf 2 = 1 := by kernel_rfl
 obtain ⟨y0,q0⟩ := hx 0 (by omega)
 obtain ⟨y1,q1⟩ := hx 1 (by omega)
 obtain ⟨y2,q2⟩ := hx 2 (by omega)
 obtain ⟨y3,q3⟩ := hx 3 (by omega)
 obtain ⟨y4,q4⟩ := hx 4 (by omega)
 obtain ⟨y5,q5⟩ := hx 5 (by omega)
 obtain ⟨y6,q6⟩ := hx 6 (by omega)
 have h0 : DataW.trod enc Tryz.prog W 0 (fun _ => true) true n 36 ((([c0,c1,c2,c3,c4,c5,c6,c7,c8] : List Value).drop 0).take (Tryz.prog.cellsOf 36)) = some y0 := (hall 0 _ rfl).trans q0
 have h1 : DataW.trod enc Tryz.prog W 0 (fun _ => true) true n 3 ((([c0,c1,c2,c3,c4,c5,c6,c7,c8] : List Value).drop 1).take (Tryz.prog.cellsOf 3)) = some y1 := (hall 1 _ rfl).trans q1
 have h2 : DataW.trod enc Tryz.prog W 0 (fun _ => true) true n 4 ((([c0,c1,c2,c3,c4,c5,c6,c7,c8] : List Value).drop 2).take (Tryz.prog.cellsOf 4)) = some y2 := (hall 2 _ rfl).trans q2
 have h3 : DataW.trod enc Tryz.prog W 0 (fun _ => true) true n 38 ((([c0,c1,c2,c3,c4,c5,c6,c7,c8] : List Value).drop 3).take (Tryz.prog.cellsOf 38)) = some y3 := (hall 3 _ rfl).trans q3
 have h4 : DataW.trod enc Tryz.prog W 0 (fun _ => true) true n 38 ((([c0,c1,c2,c3,c4,c5,c6,c7,c8] : List Value).drop 5).take (Tryz.prog.cellsOf 38)) = some y4 := (hall 4 _ rfl).trans q4
 have h5 : DataW.trod enc Tryz.prog W 0 (fun _ => true) true n 4 ((([c0,c1,c2,c3,c4,c5,c6,c7,c8] : List Value).drop 7).take (Tryz.prog.cellsOf 4)) = some y5 := (hall 5 _ rfl).trans q5
 have h6 : DataW.trod enc Tryz.prog W 0 (fun _ => true) true n 2 ((([c0,c1,c2,c3,c4,c5,c6,c7,c8] : List Value).drop 8).take (Tryz.prog.cellsOf 2)) = some y6 := (hall 6 _ rfl).trans q6
 rw [e0] at h0
 rw [e1] at h1
 rw [e2] at h2
 rw [e3] at h3
 rw [e3] at h4
 rw [e2] at h5
 rw [e4] at h6
 obtain ⟨A,c,l,z0,k1,k2,k3⟩ := openLabs h0
 obtain ⟨r,z1,_,w1⟩ := DataW.trod_int Tryz.underlying3 h1
 obtain ⟨f,z2,_⟩ := DataW.trod_bool Tryz.underlying4 h2
 obtain ⟨M,S,z3,z3',w3⟩ := decCells h3
 obtain ⟨m,s,z4,z4',w4⟩ := decCells h4
 obtain ⟨t,z5,_⟩ := DataW.trod_bool Tryz.underlying4 h5
 obtain ⟨T,z6,_,w6⟩ := DataW.trod_int Tryz.underlying2 h6
 simp only [List.drop,List.take,List.cons.injEq,and_true] at z0 z1 z2 z5 z6
 subst z0 z1 z2 z3 z3' z4 z4' z5 z6
 exact ⟨⟨A,c,l,r,f,M,S,m,s,t,T⟩,rfl,⟨k1,k2,k3,w3,w4⟩,bounds_i64 w1,bounds_i64 w6⟩
theorem openPts {H : Type} {enc : TypeId × Value → H} {W : World} {fuel : Nat} {cs : List Value} {x : DataW H × List MemPlace}
  (hf : DataW.trod enc Tryz.prog W 0 (fun _ => true) true fuel 33 cs = some x) :
  ∃ (A : Option Addr) (c : Nat) (l : List PtD),cs = [.slice A l.length c] ∧ l.length ≤ c ∧ (c : Int) ≤ 9223372036854775807 ∧ PtsA A l W ∧ (∀ p ∈ l,I64 p.r ∧ I64 p.T) := by
 have e9 : Tryz.prog.cellsOf 40 = 9 := by kernel_rfl
 rcases open_slice Tryz.underlying33 hf with ⟨hcs,_⟩ | ⟨a,len,cap,m,n,D,Pl,hcs,_,hl,hm,hmm,_,hi⟩
 ·exact ⟨none,0,[],hcs,by simp,by simp,⟨fun h => by simp at h,fun p hp => by cases hp⟩,fun p hp => by cases hp⟩
 ·unfold maxLen at hm
  simp only [if_true] at hmm
  have each : ∀ i,i < len → ∃ p : PtD,(∀ j,j < 9 → W.cell? ((a.add (i * 9)).add j) = ([.slice p.a p.l.length p.c,.int .i64 p.r,.bool p.f,.int .i64 p.M,.int .i64 p.S,.int .i64 p.m,.int .i64 p.s,.bool p.t,.int .i64 p.T] : List Value)[j]?) ∧ p.Ok W ∧ I64 p.r ∧ I64 p.T := by
   intro i hlt
   obtain ⟨cs',h1,h2⟩ := hi i (by omega)
   rw [e9] at h1
   obtain ⟨_,hlen,hcell⟩ := World.cells?_some h1
   match cs',hlen with
   | [c0,c1,c2,c3,c4,c5,c6,c7,c8],_ =>
     obtain ⟨p,hp,h3⟩ := ptCells h2
     refine ⟨p,fun j hj => ?_,h3⟩
     rw [← hp]
     exact hcell j hj
  have pick : ∃ f : Nat → PtD,∀ i,i < len → (∀ j,j < 9 → W.cell? ((a.add (i * 9)).add j) = ([.slice (f i).a (f i).l.length (f i).c,.int .i64 (f i).r,.bool (f i).f,.int .i64 (f i).M,.int .i64 (f i).S,.int .i64 (f i).m,.int .i64 (f i).s,.bool (f i).t,.int .i64 (f i).T] : List Value)[j]?) ∧ (f i).Ok W ∧ I64 (f i).r ∧ I64 (f i).T := by
   refine ⟨fun i => if h : i < len then Classical.choose (each i h) else ⟨none,0,[],0,false,0,0,0,0,false,0⟩,fun i hlt => ?_⟩
   simp only [hlt,dif_pos]
   exact Classical.choose_spec (each i hlt)
  obtain ⟨f,hf'⟩ := pick
  have hlen : ((List.range len).map f).length = len := by simp
  refine ⟨some a,cap,(List.range len).map f,by rw [hlen]; exact hcs,by rw [hlen]; exact hl,by omega,⟨fun h0 => ?_,fun p hp => ?_⟩,fun p hp => ?_⟩
  ·rw [hlen] at h0
   have g0 := (hf' 0 h0).1 0 (by decide)
   have hs : ((a.add (0 * 9)).add 0).spot = none := spot_of_cell g0
   have hb := World.block_lt_of_cell? W _ g0
   rw [block_add,block_add] at hb
   obtain ⟨b,o,sp⟩ := a
   have hsp : sp = none := by
    cases sp with
    | none => rfl
    | some z => simp [Addr.add] at hs
   subst hsp
   refine ⟨b,o,rfl,hb,fun i hlt => ?_⟩
   have hlt' : i < len := by simpa using hlt
   have e : ((List.range len).map f)[i] = f i := by simp
   rw [e]
   have C := fun j hj => (hf' i hlt').1 j hj
   simp only [Addr.add_lit] at C
   exact ⟨C 0 (by decide),C 1 (by decide),C 2 (by decide),C 3 (by decide),C 4 (by decide),C 5 (by decide),C 6 (by decide),C 7 (by decide),C 8 (by decide)⟩
  ·obtain ⟨i,hi1,rfl⟩ := List.mem_map.1 hp
   exact (hf' i (List.mem_range.1 hi1)).2.1
  ·obtain ⟨i,hi1,rfl⟩ := List.mem_map.1 hp
   exact (hf' i (List.mem_range.1 hi1)).2.2
structure FamGot (W : World) (nm : ByteArray) (k : Int) (un he : ByteArray) (A : Option Addr) (c : Nat) (l : List PtD) : Prop where
 n1 : nm.size ≤ 9223372036854775807
 n2 : un.size ≤ 9223372036854775807
 n3 : he.size ≤ 9223372036854775807
 ki : I64 k
 le : l.length ≤ c
 cm : (c : Int) ≤ 9223372036854775807
 pts : PtsA A l W
 rs : ∀ p ∈ l,I64 p.r ∧ I64 p.T
theorem famCells {H : Type} {enc : TypeId × Value → H} {W : World} {fuel : Nat} {c0 c1 c2 c3 c4 : Value} {x : DataW H × List MemPlace}
  (hf : DataW.trod enc Tryz.prog W 0 (fun _ => true) true fuel 35 [c0,c1,c2,c3,c4] = some x) :
  ∃ (nm : ByteArray) (k : Int) (un he : ByteArray) (A : Option Addr) (c : Nat) (l : List PtD),[c0,c1,c2,c3,c4] = [.string nm,.int .i64 k,.string un,.string he,.slice A l.length c] ∧ FamGot W nm k un he A c l := by
 obtain ⟨xs,n,_,_,_,hlen,hall⟩ := DataW.trod_struct Tryz.underlying35 hf
 have hx : ∀ i,i < 2 → ∃ y,xs[i]? = some y := fun i hi => ⟨xs[i]'(by rw [hlen]; exact hi),List.getElem?_eq_getElem _⟩
 have e0 : Tryz.prog.cellsOf 32 = 4 := by kernel_rfl
 have e1 : Tryz.prog.cellsOf 33 = 1 := by kernel_rfl
 have e2 : Tryz.prog.cellsOf 9 = 1 := by kernel_rfl
 have e3 : Tryz.prog.cellsOf 3 = 1 := by kernel_rfl
 obtain ⟨y0,q0⟩ := hx 0 (by omega)
 obtain ⟨y1,q1⟩ := hx 1 (by omega)
 have h0 : DataW.trod enc Tryz.prog W 0 (fun _ => true) true n 32 ((([c0,c1,c2,c3,c4] : List Value).drop 0).take (Tryz.prog.cellsOf 32)) = some y0 := (hall 0 _ rfl).trans q0
 have h1 : DataW.trod enc Tryz.prog W 0 (fun _ => true) true n 33 ((([c0,c1,c2,c3,c4] : List Value).drop 4).take (Tryz.prog.cellsOf 33)) = some y1 := (hall 1 _ rfl).trans q1
 rw [e0] at h0
 rw [e1] at h1
 obtain ⟨zs,n2,_,_,_,hlen2,hall2⟩ := DataW.trod_struct Tryz.underlying32 h0
 have hz : ∀ i,i < 4 → ∃ y,zs[i]? = some y := fun i hi => ⟨zs[i]'(by rw [hlen2]; exact hi),List.getElem?_eq_getElem _⟩
 obtain ⟨u0,r0⟩ := hz 0 (by omega)
 obtain ⟨u1,r1⟩ := hz 1 (by omega)
 obtain ⟨u2,r2⟩ := hz 2 (by omega)
 obtain ⟨u3,r3⟩ := hz 3 (by omega)
 have g0 : DataW.trod enc Tryz.prog W 0 (fun _ => true) true n2 9 ((([c0,c1,c2,c3] : List Value).drop 0).take (Tryz.prog.cellsOf 9)) = some u0 := (hall2 0 _ rfl).trans r0
 have g1 : DataW.trod enc Tryz.prog W 0 (fun _ => true) true n2 3 ((([c0,c1,c2,c3] : List Value).drop 1).take (Tryz.prog.cellsOf 3)) = some u1 := (hall2 1 _ rfl).trans r1
 have g2 : DataW.trod enc Tryz.prog W 0 (fun _ => true) true n2 9 ((([c0,c1,c2,c3] : List Value).drop 2).take (Tryz.prog.cellsOf 9)) = some u2 := (hall2 2 _ rfl).trans r2
 have g3 : DataW.trod enc Tryz.prog W 0 (fun _ => true) true n2 9 ((([c0,c1,c2,c3] : List Value).drop 3).take (Tryz.prog.cellsOf 9)) = some u3 := (hall2 3 _ rfl).trans r3
 rw [e2] at g0 g2 g3
 rw [e3] at g1
 obtain ⟨nm,z0,_,w0⟩ := DataW.trod_string Tryz.underlying9 g0
 obtain ⟨k,z1,_,w1⟩ := DataW.trod_int Tryz.underlying3 g1
 obtain ⟨un,z2,_,w2⟩ := DataW.trod_string Tryz.underlying9 g2
 obtain ⟨he,z3,_,w3⟩ := DataW.trod_string Tryz.underlying9 g3
 obtain ⟨A,c,l,z4,k1,k2,k3,k4⟩ := openPts h1
 simp only [List.drop,List.take,List.cons.injEq,and_true] at z0 z1 z2 z3 z4
 subst z0 z1 z2 z3 z4
 unfold maxLen at w0 w2 w3
 exact ⟨nm,k,un,he,A,c,l,rfl,⟨by omega,by omega,by omega,bounds_i64 w1,k1,k2,k3,k4⟩⟩
end Go.Proofs.YtjjnmefihdjglaaGreat
