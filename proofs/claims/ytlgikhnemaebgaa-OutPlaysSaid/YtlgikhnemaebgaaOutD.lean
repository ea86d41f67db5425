/- out.Put in one contract; a slice of texts that has just been made; the law's own check 'known'. -/
import Derived.Test.YtlgikhnemaebgaaOutC
namespace Go.Proofs.Ytlgikhnemaebgaa
open Go.RowKit

/-- Do the texts have room? -/
def putOk (full : Bool) (l : List UInt8) (most : Int) (ss : List ByteArray) : Bool := !full && decide ((l.length : Int) + total ss ≤ most)

theorem Put_any {B b : Nat} {v : Value} {l : List UInt8} {most : Int} {full : Bool} {w : World} {A : Option Addr} {n cap : Nat} (ss : List ByteArray) (hn : ss.length = n) (h : OutIs B b v l most full w) (hm : 0 ≤ most ∧ most ≤ 20000) (hl : l.length ≤ most) (hBw : B ≤ w.heap.size)
    (hs : Strs w A ss) (ha : 0 < ss.length → Apart A b v) (hsz : n ≤ 9223372036854775807) (hbig : ∀ s ∈ ss, s.size ≤ 9223372036854775807) (ok : Bool) (hok : putOk full l most ss = ok) (l' : List UInt8) (hl' : (if ok then l ++ joined ss else l) = l') :
    Calls Try.prog 8 #[.pointer (some ⟨b, 0, none⟩), .slice A n cap] w fun e w' => e = .returned (.bool ok) ∧ ∃ v', OutIs B b v' l' most (!ok) w' ∧ Kept (Its b v) w w' ∧ (v'.ownBlock = v.ownBlock ∨ ∀ k, v'.ownBlock = some k → w.heap.size ≤ k) := by
  subst hn
  subst hok
  subst hl'
  cases full with
  | true =>
    refine (Put_full ss h hm hl hs ha hsz).mono ?_
    rintro e w1 ⟨rfl, h1, k1⟩
    exact ⟨rfl, v, by simpa [putOk] using h1, k1, .inl rfl⟩
  | false =>
    by_cases hf : (l.length : Int) + total ss ≤ most
    · refine (Put_yes ss h hm hl hBw hs ha hsz hf).mono ?_
      rintro e w1 ⟨rfl, v', h1, k1, o1⟩
      have : putOk false l most ss = true := by simp [putOk, hf]
      rw [this]
      exact ⟨rfl, v', h1, k1, o1⟩
    · refine (Put_no ss h hm hl hs ha hsz hbig (by omega)).mono ?_
      rintro e w1 ⟨rfl, h1, k1⟩
      have : putOk false l most ss = false := by simp [putOk]; omega
      rw [this]
      exact ⟨rfl, v, h1, k1, .inl rfl⟩

theorem strs_new (w : World) (ss : List ByteArray) : Strs (w.alloc (.cells (ss.map Value.string).toArray 9)) (some ⟨w.heap.size, 0, none⟩) ss := by
  intro i hi
  refine ⟨_, rfl, by rw [World.size_alloc]; exact Nat.lt_succ_self _, ?_⟩
  have hadd : (⟨w.heap.size, 0, none⟩ : Addr).add i = ⟨w.heap.size, i, none⟩ := by unfold Addr.add; split <;> simp_all
  rw [hadd, cell_of_row _ _ _ _ _ _ (heap_alloc_new w _)]
  simp [List.getElem?_eq_getElem hi, List.getD_eq_getElem?_getD]
theorem strs_none (w : World) (A : Option Addr) : Strs w A [] := fun i hi => by simp at hi
theorem apart_new {B b : Nat} {v : Value} {l : List UInt8} {most : Int} {full : Bool} {w : World} (h : OutIs B b v l most full w) : Apart (some ⟨w.heap.size, 0, none⟩) b v := by
  intro a ha hi
  injection ha with ha
  subst ha
  rcases hi with hi | hi
  · have := h.lt; simp only at hi; omega
  · have := h.own _ hi; simp only at this; omega
theorem apart_none (b : Nat) (v : Value) : Apart none b v := fun a ha => by cases ha
/-- Two of them share nothing. -/
def Two (b : Nat) (v : Value) (c : Nat) (u : Value) : Prop := ∀ k, Its b v k → ¬ Its c u k

theorem eq_ptr (a : Addr) (w : World) : (binOp .eql 24 (.pointer (some a)) (.pointer none)).run Try.prog w = .ok (.bool false) w := by kernel_rfl

set_option maxHeartbeats 4000000 in
set_option maxRecDepth 100000 in
theorem known_any (w : World) :
    Calls Try.prog 6 #[] w fun e w' => e = .returned (.bool true) ∧ Ext w w' := by
  go_enter Try.func6, Try.ntmps6
  go_wp2_with fail
  refine (New_any w.heap.size 2 w (Nat.le_refl _)).mono ?_
  rintro e w1 ⟨rfl, o1, x1, z1⟩
  have Z1 := Lib.hid z1
  clear z1
  go_wp2_with fail
  have o2 := o1.ext ((Ext.refl _).alloc (.cells #[.string ⟨#[97]⟩, .string ⟨#[98, 99]⟩] 9))
  have s2 := strs_new w1 [⟨#[97]⟩, ⟨#[98, 99]⟩]
  refine (Put_any [⟨#[97]⟩, ⟨#[98, 99]⟩] rfl o2 (by decide) (by decide) (by have := x1.size; rw [World.size_alloc]; omega) s2 (fun _ => apart_new o1) (by decide) (by decide) false (by decide) [] (by decide)).mono ?_
  rintro e w2 ⟨rfl, v2, o2, k2, _⟩
  have y2 : Ext w w2 := k2.ext (x1.alloc _) (fun k hk hi => by rcases hi with rfl | hi; omega; exact absurd hi (by simp [Value.ownBlock]))
  go_wp2_with fail
  have o3 := o2.ext ((Ext.refl _).alloc (.cells #[.string ⟨#[97]⟩] 9))
  have s3 := strs_new w2 [⟨#[97]⟩]
  refine (Put_any [⟨#[97]⟩] rfl o3 (by decide) (by decide) (by have := y2.size; rw [World.size_alloc]; omega) s3 (fun _ => apart_new o2) (by decide) (by decide) false (by decide) [] (by decide)).mono ?_
  rintro e w3 ⟨rfl, v3, o3, k3, _⟩
  have y3 : Ext w w3 := k3.ext (y2.alloc _) (fun k hk hi => by rcases hi with rfl | hi; omega; have := (o2.own _ hi).1; omega)
  go_wp2_with fail
  refine (New_any w.heap.size 3 w3 y3.size).mono ?_
  rintro e w4 ⟨rfl, p4, x4, z4⟩
  have Z4 := Lib.hid z4
  clear z4
  have o4 := o3.ext x4
  have y4 := y3.trans x4
  go_wp2_with fail
  have p5 := p4.ext ((Ext.refl _).alloc (.cells #[.string ⟨#[97]⟩, .string ⟨#[]⟩, .string ⟨#[98, 99]⟩] 9))
  have o5 := o4.ext ((Ext.refl _).alloc (.cells #[.string ⟨#[97]⟩, .string ⟨#[]⟩, .string ⟨#[98, 99]⟩] 9))
  have s5 := strs_new w4 [⟨#[97]⟩, ⟨#[]⟩, ⟨#[98, 99]⟩]
  refine (Put_any [⟨#[97]⟩, ⟨#[]⟩, ⟨#[98, 99]⟩] rfl p5 (by decide) (by decide) (by have := y4.size; rw [World.size_alloc]; omega) s5 (fun _ => apart_new p4) (by decide) (by decide) true (by decide) [97, 98, 99] (by decide)).mono ?_
  rintro e w5 ⟨rfl, v5, p5, k5, q5⟩
  have y5 : Ext w w5 := k5.ext (y4.alloc _) (fun k hk hi => by rcases hi with rfl | hi; (have := y3.size; omega); exact absurd hi (by simp [Value.ownBlock]))
  have o5 := o5.kept k5 (fun k hk hi => by
    rcases hi with rfl | hi
    · rcases hk with hk | hk
      · have := o3.lt; omega
      · have := (o3.own _ hk).2; omega
    · exact absurd hi (by simp [Value.ownBlock]))
  go_wp2_with fail
  refine (Full_any o5).mono ?_
  rintro e w6 ⟨rfl, rfl⟩
  go_wp2_with fail
  refine (Text_any o5).mono ?_
  rintro e w6 ⟨rfl, o6, k6⟩
  have y6 : Ext w w6 := k6.ext y5 (fun k hk hi => by rcases hi with rfl | hi; omega; have := (o3.own _ hi).1; omega)
  have p6 := p5.kept k6 (fun k hk hi => by
    have hlt : k < w3.heap.size := by
      rcases hi with rfl | hi
      · exact o3.lt
      · exact (o3.own _ hi).2
    rcases hk with rfl | hk
    · omega
    · rcases q5 with q5 | q5
      · rw [q5] at hk; simp [Value.ownBlock] at hk
      · have := q5 _ hk; rw [World.size_alloc] at this; have := x4.size; omega)
  go_wp2_with fail
  refine (Left_any o6 (by decide) (by decide)).mono ?_
  rintro e w7 ⟨rfl, n7, rfl⟩
  simp only [Bool.not_false, if_true]
  go_wp2_with fail
  refine (Text_any (p6.drewN n7)).mono ?_
  rintro e w8 ⟨rfl, p8, k8⟩
  have own5 : ∀ k, k < w.heap.size → ¬ Its w3.heap.size v5 k := fun k hk hi => by
    have := y3.size
    rcases hi with rfl | hi
    · omega
    · have := (p5.own _ hi).1; omega
  have y8 : Ext w w8 := k8.ext (y6.drewN n7) own5
  go_wp2_with fail
  refine (OLen_any p8).mono ?_
  rintro e w9 ⟨rfl, rfl⟩
  go_wp2_with fail
  refine (Left_any p8 (by decide) (by decide)).mono ?_
  rintro e w9 ⟨rfl, n9, rfl⟩
  simp only [Bool.not_true, Bool.false_eq_true, if_false]
  go_wp2_with fail
  refine (Full_any (p8.drewN n9)).mono ?_
  rintro e w9 ⟨rfl, rfl⟩
  go_wp2_with fail
  refine (Put_any [] rfl (p8.drewN n9) (by decide) (by decide) (by have := y8.size; exact this) (strs_none _ _) (fun _ => apart_none _ _) (by decide) (by decide) true (by decide) [97, 98, 99] (by decide)).mono ?_
  rintro e w10 ⟨rfl, v10, p10, k10, _⟩
  go_wp2_with fail
  go_ret
  exact ⟨rfl, k10.ext (y8.drewN n9) own5⟩
end Go.Proofs.Ytlgikhnemaebgaa
