import Derived.Test.YtjjnmefihdjglaaGreatFamE
namespace Go.Proofs.YtjjnmefihdjglaaGreat
open Go.ChangeShapes Go.WideShapes Go.ChangeAt Go.RowKit Go.Deep
theorem FamGot.ext0 {W : World} {nm : ByteArray} {k : Int} {un he : ByteArray} {A : Option Addr} {c : Nat} {l : List PtD} (h : FamGot W nm k un he A c l) : (l.length : Int) ≤ 9223372036854775807 := by
 have h1 := h.le
 have h2 := h.cm
 omega
set_option maxHeartbeats 4000000 in
set_option maxRecDepth 100000 in
theorem openFams {H : Type} {enc : TypeId × Value → H} {W : World} {fuel : Nat} {cs : List Value} {x : DataW H × List MemPlace}
  (hf : DataW.trod enc Tryz.prog W 0 (fun _ => true) true fuel 25 cs = some x) :
  ∃ (A : Option Addr) (c : Nat) (l : List FamD), cs = [.slice A l.length c] ∧ l.length ≤ c ∧ (c : Int) ≤ 9223372036854775807 ∧ FamsA A l W ∧ (∀ f ∈ l, FamGot W f.nm f.k f.un f.he f.pa f.pc f.ps) := by
 have e5 : Tryz.prog.cellsOf 35 = 5 := by kernel_rfl
 rcases open_slice Tryz.underlying25 hf with ⟨hcs, _⟩ | ⟨a, len, cap, m, n, D, Pl, hcs, _, hl, hm, hmm, _, hi⟩
 ·exact ⟨none, 0, [], hcs, by simp, by simp, FamsA.nil _ _, fun p hp => by cases hp⟩
 ·unfold maxLen at hm
  simp only [if_true] at hmm
  have each : ∀ i, i < len → ∃ f : FamD, (∀ j, j < 5 → W.cell? ((a.add (i * 5)).add j) = ([.string f.nm, .int .i64 f.k, .string f.un, .string f.he, .slice f.pa f.ps.length f.pc] : List Value)[j]?) ∧ FamGot W f.nm f.k f.un f.he f.pa f.pc f.ps := by
   intro i hlt
   obtain ⟨cs', h1, h2⟩ := hi i (by omega)
   rw [e5] at h1
   obtain ⟨_, hlen, hcell⟩ := World.cells?_some h1
   match cs', hlen with
   | [c0, c1, c2, c3, c4], _ =>
     obtain ⟨nm, k, un, he, A, c, l, hp, h3⟩ := famCells h2
     refine ⟨⟨nm, k, un, he, A, c, l⟩, fun j hj => ?_, h3⟩
     dsimp only
     rw [← hp]
     exact hcell j hj
  have pick : ∃ f : Nat → FamD, ∀ i, i < len → (∀ j, j < 5 → W.cell? ((a.add (i * 5)).add j) = ([.string (f i).nm, .int .i64 (f i).k, .string (f i).un, .string (f i).he, .slice (f i).pa (f i).ps.length (f i).pc] : List Value)[j]?) ∧ FamGot W (f i).nm (f i).k (f i).un (f i).he (f i).pa (f i).pc (f i).ps := by
   refine ⟨fun i => if h : i < len then Classical.choose (each i h) else FamD.zero, fun i hlt => ?_⟩
   simp only [hlt, dif_pos]
   exact Classical.choose_spec (each i hlt)
  obtain ⟨f, hf'⟩ := pick
  have hlen : ((List.range len).map f).length = len := by simp
  refine ⟨some a, cap, (List.range len).map f, by rw [hlen]; exact hcs, by rw [hlen]; exact hl, by omega, ⟨fun h0 => ?_, fun p hp => ?_⟩, fun p hp => ?_⟩
  ·rw [hlen] at h0
   have g0 := (hf' 0 h0).1 0 (by decide)
   have hs : ((a.add (0 * 5)).add 0).spot = none := spot_of_cell g0
   have hb := World.block_lt_of_cell? W _ g0
   rw [block_add, block_add] at hb
   obtain ⟨b, o, sp⟩ := a
   have hsp : sp = none := by
    cases sp with
    | none => rfl
    | some z => simp [Addr.add] at hs
   subst hsp
   refine ⟨b, o, rfl, hb, fun i hlt => ?_⟩
   have hlt' : i < len := by simpa using hlt
   have e : ((List.range len).map f)[i] = f i := by simp
   rw [e]
   have C := fun j hj => (hf' i hlt').1 j hj
   simp only [Addr.add_lit] at C
   exact ⟨C 0 (by decide), C 1 (by decide), C 2 (by decide), C 3 (by decide), C 4 (by decide)⟩
  ·obtain ⟨i, hi1, rfl⟩ := List.mem_map.1 hp
   exact (hf' i (List.mem_range.1 hi1)).2.pts
  ·obtain ⟨i, hi1, rfl⟩ := List.mem_map.1 hp
   exact (hf' i (List.mem_range.1 hi1)).2
structure BatGot (W : World) (tn : ByteArray) (A : Option Addr) (c : Nat) (l : List FamD) : Prop where
 n1 : tn.size ≤ 9223372036854775807
 le : l.length ≤ c
 cm : (c : Int) ≤ 9223372036854775807
 fams : FamsA A l W
 got : ∀ f ∈ l, FamGot W f.nm f.k f.un f.he f.pa f.pc f.ps
theorem BatGot.len {W : World} {tn : ByteArray} {A : Option Addr} {c : Nat} {l : List FamD} (h : BatGot W tn A c l) : (l.length : Int) ≤ 9223372036854775807 := by
 have h1 := h.le
 have h2 := h.cm
 omega
set_option maxHeartbeats 4000000 in
set_option maxRecDepth 100000 in
theorem batCells {H : Type} {enc : TypeId × Value → H} {W : World} {fuel : Nat} {c0 c1 : Value} {x : DataW H × List MemPlace}
  (hf : DataW.trod enc Tryz.prog W 0 (fun _ => true) true fuel 27 [c0, c1] = some x) :
  ∃ (tn : ByteArray) (A : Option Addr) (c : Nat) (l : List FamD), [c0, c1] = [.string tn, .slice A l.length c] ∧ BatGot W tn A c l := by
 obtain ⟨xs, n, _, _, _, hlen, hall⟩ := DataW.trod_struct Tryz.underlying27 hf
 have hx : ∀ i, i < 2 → ∃ y, xs[i]? = some y := fun i hi => ⟨xs[i]'(by rw [hlen]; exact hi), List.getElem?_eq_getElem _⟩
 have e0 : Tryz.prog.cellsOf 9 = 1 := by kernel_rfl
 have e1 : Tryz.prog.cellsOf 25 = 1 := by kernel_rfl
 obtain ⟨y0, q0⟩ := hx 0 (by omega)
 obtain ⟨y1, q1⟩ := hx 1 (by omega)
 have h0 : DataW.trod enc Tryz.prog W 0 (fun _ => true) true n 9 ((([c0, c1] : List Value).drop 0).take (Tryz.prog.cellsOf 9)) = some y0 := (hall 0 _ rfl).trans q0
 have h1 : DataW.trod enc Tryz.prog W 0 (fun _ => true) true n 25 ((([c0, c1] : List Value).drop 1).take (Tryz.prog.cellsOf 25)) = some y1 := (hall 1 _ rfl).trans q1
 rw [e0] at h0
 rw [e1] at h1
 obtain ⟨tn, z0, _, w0⟩ := DataW.trod_string Tryz.underlying9 h0
 obtain ⟨A, c, l, z1, k1, k2, k3, k4⟩ := openFams h1
 simp only [List.drop, List.take, List.cons.injEq, and_true] at z0 z1
 subst z0 z1
 unfold maxLen at w0
 exact ⟨tn, A, c, l, rfl, ⟨by omega, k1, k2, k3, k4⟩⟩
theorem array2 {α : Type} {cs : Array α} (h : cs.size = 2) : ∃ c0 c1, cs = #[c0, c1] := by
 obtain ⟨l⟩ := cs
 match l, h with
 | [c0, c1], _ => exact ⟨c0, c1, rfl⟩
set_option maxRecDepth 100000 in
theorem openBat {H : Type} {enc : TypeId × Value → H} {W : World} {r0 : Reach} {b0 : Nat} {v : Value} {d : DataW H} {p : List MemPlace}
  (hv : Value.okWide Tryz.prog W r0 b0 27 v) (h : DataW.Trod enc Tryz.prog W 0 (fun _ => true) true 27 v d p) :
  ∃ (tn : ByteArray) (A : Option Addr) (c : Nat) (l : List FamD), v = .agg #[.string tn, .slice A l.length c] ∧ BatGot W tn A c l := by
 obtain ⟨cs, rfl, hsz⟩ := okWide_struct Tryz.underlying27 hv
 have hc2 : Tryz.prog.cellsOf 27 = 2 := by kernel_rfl
 obtain ⟨c0, c1, rfl⟩ := array2 (hsz.trans hc2)
 obtain ⟨fuel, hf⟩ := h
 obtain ⟨tn, A, c, l, e, g⟩ := batCells hf
 simp only [List.cons.injEq, and_true] at e
 obtain ⟨rfl, rfl⟩ := e
 exact ⟨tn, A, c, l, rfl, g⟩
end Go.Proofs.YtjjnmefihdjglaaGreat
