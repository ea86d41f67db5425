import Derived.Test.YtjjnmefihdjglaaGreatMgS
import Derived.Test.YtjjnmefihdjglaaGreatKL
import Derived.Test.YtjjnmefihdjglaaGreatKK
import Derived.SliceStrings
set_option maxRecDepth 100000
set_option maxHeartbeats 64000000
set_option linter.all false
namespace Go.Proofs.YtjjnmefihdjglaaGreat
open Go.ChangeShapes Go.WideShapes Go.ChangeAt Go.RowKit Go.Deep
theorem openNames {H : Type} {enc : TypeId × Value → H} {W : World} {r0 : Reach} {b0 : Nat} {v : Value} {d : DataW H} {p : List MemPlace}
  (hv : Value.okWide Tryz.prog W r0 b0 56 v) (h : DataW.Trod enc Tryz.prog W 0 (fun _ => true) true 56 v d p) :
  ∃ (A : Option Addr) (c : Nat) (ss : List ByteArray),v = .slice A ss.length c ∧ StrsA A ss W ∧ (ss.length : Int) ≤ 9223372036854775807 := by
 obtain ⟨a0,len,cap,rfl⟩ := okWide_slice Tryz.underlying56 hv
 obtain ⟨fuel,hf⟩ := h
 rcases open_strings Tryz.underlying56 Tryz.underlying9 (by kernel_rfl) hf with ⟨hcs,_⟩ | ⟨a,len',cap',ss,hcs,_,hl,hm,hz,_,hcell,hws⟩
 ·simp only [Value.cells,List.cons.injEq,and_true] at hcs
  injection hcs with h1 h2 h3
  subst h1; subst h2
  exact ⟨none,cap,[],rfl,fun h => absurd h (by simp),by simp⟩
 ·simp only [Value.cells,List.cons.injEq,and_true] at hcs
  injection hcs with h1 h2 h3
  subst h1; subst h2; subst h3
  unfold maxLen at hm
  simp only [if_true] at hz
  have hlen : (ss.take len).length = len := by rw [List.length_take]; omega
  refine ⟨some a,cap,ss.take len,by rw [hlen],fun h0 => ?_,by omega⟩
  rw [hlen] at h0
  have g0 := hcell 0 (by omega)
  have hs : (a.add 0).spot = none := spot_of_cell g0
  have hb := World.block_lt_of_cell? W _ g0
  rw [block_add] at hb
  obtain ⟨b,o,sp⟩ := a
  have hsp : sp = none := by
   cases sp with
   | none => rfl
   | some z => simp [Addr.add] at hs
  subst hsp
  refine ⟨b,o,rfl,hb,fun i hi => ?_⟩
  have hi' : i < len := by omega
  have hc := hcell i (by omega)
  rw [Addr.add_lit] at hc
  rw [hc]
  have hil : i < ss.length := by omega
  simp [List.getElem_take,hil]
theorem openBats {H : Type} {enc : TypeId × Value → H} {W : World} {r0 : Reach} {b0 : Nat} {v : Value} {d : DataW H} {p : List MemPlace}
  (hv : Value.okWide Tryz.prog W r0 b0 22 v) (h : DataW.Trod enc Tryz.prog W 0 (fun _ => true) true 22 v d p) :
  ∃ (A : Option Addr) (c : Nat) (l : List BatD),v = .slice A l.length c ∧ (l.length : Int) ≤ 9223372036854775807 ∧ BatsA A l W ∧ (∀ x ∈ l,BatGot W x.tn x.fa x.fc x.fs) := by
 have e2 : Tryz.prog.cellsOf 27 = 2 := by kernel_rfl
 obtain ⟨a0,len,cap,rfl⟩ := okWide_slice Tryz.underlying22 hv
 obtain ⟨fuel,hf⟩ := h
 rcases open_slice Tryz.underlying22 hf with ⟨hcs,_⟩ | ⟨a,len',cap',m,n,D,Pl,hcs,_,hl,hm,hmm,_,hi⟩
 ·simp only [Value.cells,List.cons.injEq,and_true] at hcs
  injection hcs with h1 h2 h3
  subst h1; subst h2
  exact ⟨none,cap,[],rfl,by simp,BatsA.nil _ _,fun p hp => by cases hp⟩
 ·simp only [Value.cells,List.cons.injEq,and_true] at hcs
  injection hcs with h1 h2 h3
  subst h1; subst h2; subst h3
  unfold maxLen at hm
  simp only [if_true] at hmm
  have each : ∀ i,i < len → ∃ f : BatD,(∀ j,j < 2 → W.cell? ((a.add (i * 2)).add j) = ([.string f.tn,.slice f.fa f.fs.length f.fc] : List Value)[j]?) ∧ BatGot W f.tn f.fa f.fc f.fs := by
   intro i hlt
   obtain ⟨cs',h1,h2⟩ := hi i (by omega)
   rw [e2] at h1
   obtain ⟨_,hlen,hcell⟩ := World.cells?_some h1
   match cs',hlen with
   | [c0,c1],_ =>
     obtain ⟨tn,A,c,l,hp,h3⟩ := batCells h2
     refine ⟨⟨tn,A,c,l⟩,fun j hj => ?_,h3⟩
     dsimp only
     rw [← hp]
     exact hcell j hj
  have pick : ∃ f : Nat → BatD,∀ i,i < len → (∀ j,j < 2 → W.cell? ((a.add (i * 2)).add j) = ([.string (f i).tn,.slice (f i).fa (f i).fs.length (f i).fc] : List Value)[j]?) ∧ BatGot W (f i).tn (f i).fa (f i).fc (f i).fs := by
   refine ⟨fun i => if h : i < len then Classical.choose (each i h) else ⟨⟨#[]⟩,none,0,[]⟩,fun i hlt => ?_⟩
   simp only [hlt,dif_pos]
   exact Classical.choose_spec (each i hlt)
  obtain ⟨f,hf'⟩ := pick
  have hlen : ((List.range len).map f).length = len := by simp
  refine ⟨some a,cap,(List.range len).map f,by rw [hlen],by rw [hlen]; omega,⟨fun h0 => ?_,fun p hp => ?_⟩,fun p hp => ?_⟩
  ·rw [hlen] at h0
   have g0 := (hf' 0 h0).1 0 (by decide)
   have hs : ((a.add (0 * 2)).add 0).spot = none := spot_of_cell g0
   have hb := World.block_lt_of_cell? W _ g0
   rw [block_add,block_add] at hb
   obtain ⟨b,o,sp⟩ := a
   have hsp : sp = none := by
    cases sp with
    | none => rfl
    | some z => simp [Addr.add] at hs
   subst hsp
   refine ⟨b,o,rfl,hb,fun i hlt => ?_⟩
   have hlt' : i < len := by simpa using hlt
   have e : ((List.range len).map f)[i] = f i := by simp
   rw [e]
   have C := fun j hj => (hf' i hlt').1 j hj
   simp only [Addr.add_lit] at C
   exact ⟨C 0 (by decide),C 1 (by decide)⟩
  ·obtain ⟨i,hi1,rfl⟩ := List.mem_map.1 hp
   exact (hf' i (List.mem_range.1 hi1)).2.fams
  ·obtain ⟨i,hi1,rfl⟩ := List.mem_map.1 hp
   exact (hf' i (List.mem_range.1 hi1)).2
end Go.Proofs.YtjjnmefihdjglaaGreat
