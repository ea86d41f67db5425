import Derived.Test.YtjjnmefihdjglaaGreatKW
set_option linter.all false
namespace Go.Proofs.YtjjnmefihdjglaaGreat
open Go.RowKit
def HeadIn (b : Nat) (nm : ByteArray) (k : Int) (un he : ByteArray) (w : World) : Prop := w.heap[b]? = some (.cells #[.string nm, .int .i64 k, .string un, .string he] 32 (0, 0))
theorem HeadIn.cells {b : Nat} {nm : ByteArray} {k : Int} {un he : ByteArray} {w : World} (h : HeadIn b nm k un he w) :
  w.cell? ⟨b, 0, none⟩ = some (.string nm) ∧ w.cell? ⟨b, 1, none⟩ = some (.int .i64 k) ∧ w.cell? ⟨b, 2, none⟩ = some (.string un) ∧ w.cell? ⟨b, 3, none⟩ = some (.string he) := by
 refine ⟨?_, ?_, ?_, ?_⟩ <;> (rw [Lib.cell_of_heap h]; rfl)
set_option maxHeartbeats 16000000 in
set_option maxRecDepth 100000 in
theorem MergeKinds_main (tn : ByteArray) (A : Option Addr) (c : Nat) (l : List FamD) (how : Int) (w : World) (g : BatGot w tn A c l) (hh : 0 ≤ how ∧ how ≤ 255) :
  Calls Tryz.prog 4 #[.agg #[.string tn, .slice A l.length c], .int .u8 how] w fun e w' => e = .returned (.bool true) ∧ Ext w w' := by
 obtain ⟨W, hW⟩ : ∃ W, w.alloc (.cells #[.string tn, .slice A l.length c] 27) = W := ⟨_, rfl⟩
 have z1 : Ext w W := by rw [← hW]; exact (Ext.refl w).alloc _
 have gB : BatIn w.heap.size tn (.slice A l.length c) W := by rw [← hW]; exact heap_last _ _
 replace hW := Lib.hid hW
 obtain ⟨B, hB⟩ : ∃ B, w.heap.size = B := ⟨_, rfl⟩
 rw [hB] at gB
 have hA := g.fams.ext z1
 have hlm := g.len
 have hfl : ∀ f ∈ l, (f.ps.length : Int) ≤ 9223372036854775807 := fun f hf => (g.got f hf).ext0
 clear g
 go_enter Tryz.func4, Tryz.ntmps4
 go_wp2_with fail
 rw [hW.out]
 (with_reducible refine (known11_any _).mono ?_)
 rintro e w1 ⟨rfl, y1⟩
 replace gB := gB.ext y1
 replace hA := hA.ext y1
 replace z1 := z1.trans y1
 clear hW hB y1
 obtain ⟨b0, b1⟩ := gB.cells
 go_wp2_with fail
 (with_reducible refine (wide_any tn A c l w1 hlm hA hfl).mono ?_)
 rintro e w2 ⟨⟨sb, rfl, hsb⟩, y1⟩
 replace gB := gB.ext y1
 replace hA := hA.ext y1
 replace z1 := z1.trans y1
 clear b0 b1 y1 hfl
 obtain ⟨b0, b1⟩ := gB.cells
 cases sb
 rotate_left
 ·clear hsb
  go_wp2_with fail
  go_ret
  exact ⟨rfl, z1⟩
 obtain ⟨h40, h100, hnar⟩ := hsb rfl
 clear hsb
 have hs : ∀ f ∈ l, f.y.Sm := fun f hf => (hnar f hf).sm
 have RC := rCheck_any tn A c l w2 (by omega) (by omega) hA hs
 obtain ⟨r, hr⟩ : ∃ r, checkB tn (l.map FamD.y) = r := ⟨_, rfl⟩
 rw [hr] at RC
 go_wp2_with fail
 (with_reducible refine RC.mono ?_)
 rintro e w3 ⟨rfl, y1⟩
 replace gB := gB.ext y1
 replace hA := hA.ext y1
 replace z1 := z1.trans y1
 clear b0 b1 y1 RC hnar
 obtain ⟨b0, b1⟩ := gB.cells
 by_cases hr0 : r = 0
 rotate_left
 ·have hrb : (r != 0) = true := by simpa using hr0
  go_wp2_with fail
  go_ret
  exact ⟨rfl, z1⟩
 subst hr0
 by_cases h0 : l.length = 0
 ·have h0' : (l.length : Int) = 0 := by omega
  clear hr
  go_wp2_with fail
  go_ret
  exact ⟨rfl, z1⟩
 have h0' : ¬ (l.length : Int) = 0 := by omega
 have hlp : 0 < l.length := by omega
 have hlp2 : (0 : Int) < (l.length : Int) := by omega
 have GB := GoodB.of hr
 obtain ⟨b, o, rfl, hb, hPP⟩ := hA.1 hlp
 obtain ⟨p0, p1, p2, p3, p4⟩ := hPP 0 hlp
 rw [Nat.zero_mul, Nat.add_zero] at p0 p1 p2 p3
 obtain ⟨f0, hf0⟩ : ∃ f0, l[0] = f0 := ⟨_, rfl⟩
 rw [hf0] at p0 p1 p2 p3
 have hly : Hid (l.map FamD.y = f0.y :: (l.drop 1).map FamD.y) := Lib.hid (by
  have h1 := List.drop_eq_getElem_cons hlp
  rw [List.drop_zero, hf0] at h1
  conv => lhs; rw [h1]
  rfl)
 rw [hly.out] at GB
 have hgf := GB.good f0.y (by simp)
 have hkp := (goodF_parts hgf).2.1
 change 0 ≤ f0.k ∧ f0.k ≤ 4 at hkp
 have hsf : f0.y.Sm := hs f0 (by rw [← hf0]; exact List.getElem_mem hlp)
 obtain ⟨kk, hkk⟩ : ∃ kk, (f0.k + 1) % 5 = kk := ⟨_, rfl⟩
 have hk1 : IntKind.i64.wrap (f0.k + 1) = f0.k + 1 := IntWalk.i64_in _ (by omega)
 have hk2 : (f0.k + 1).tmod 5 = kk := by rw [Int.tmod_eq_emod_of_nonneg (by omega)]; exact hkk
 have hk3 : IntKind.i64.wrap kk = kk := IntWalk.i64_in _ (by omega)
 have hfz : Hid (FamD.y ⟨f0.nm, kk, f0.un, f0.he, none, 0, []⟩ = headK f0.y) := Lib.hid (by unfold headK FamD.y; dsimp only; rw [hkk]; rfl)
 have hfs : (headK f0.y).Sm := ⟨hsf.n, hsf.u, hsf.h, by show (0 : Nat) ≤ 1000; decide, by intro q hq; cases hq⟩
 obtain ⟨m, hm3⟩ : ∃ m, how.tmod 3 = m := ⟨_, rfl⟩
 have hm3' : how % 3 = m := by rw [← hm3, Int.tmod_eq_emod_of_nonneg hh.1]
 have hmw : IntKind.u8.wrap m = m := IntWalk.u8_in _ (by omega)
 have hmc : m = 0 ∨ m = 1 ∨ m = 2 := by omega
 have hBl : B < w3.heap.size := gB.lt
 replace hr := Lib.hid hr
 replace hkk := Lib.hid hkk
 replace hm3' := Lib.hid hm3'
 clear hPP p4 hf0 hlm
 rcases hmc with rfl | rfl | rfl
 ·obtain ⟨W7, hW7⟩ : ∃ W7, ((w3.alloc (.cells #[.string f0.nm, .int .i64 kk, .string f0.un, .string f0.he] 32)).alloc (.cells #[.string f0.nm, .int .i64 kk, .string f0.un, .string f0.he, .slice none 0 0] 35)).alloc (.cells #[.string (tn ++ (⟨#[45]⟩ : ByteArray)), .slice (some ⟨w3.heap.size + 1, 0, none⟩) 1 1] 27) = W7 := ⟨_, rfl⟩
  have x7 : Ext w3 W7 := by rw [← hW7]; exact (((Ext.refl w3).alloc _).alloc _).alloc _
  have hrow : W7.heap[w3.heap.size + 1]? = some (.cells #[.string f0.nm, .int .i64 kk, .string f0.un, .string f0.he, .slice none 0 0] 35 (0, 0)) := by
   rw [← hW7]
   exact (((Ext.refl _).alloc _).heap (by simp)).trans (heap_at2b _ _ _)
  have gM : BatIn (w3.heap.size + 1 + 1) (tn ++ (⟨#[45]⟩ : ByteArray)) (.slice (some ⟨w3.heap.size + 1, 0, none⟩) 1 1) W7 := by
   rw [← hW7]
   have := heap_last ((w3.alloc (.cells #[.string f0.nm, .int .i64 kk, .string f0.un, .string f0.he] 32)).alloc (.cells #[.string f0.nm, .int .i64 kk, .string f0.un, .string f0.he, .slice none 0 0] 35)) (.cells #[.string (tn ++ (⟨#[45]⟩ : ByteArray)), .slice (some ⟨w3.heap.size + 1, 0, none⟩) 1 1] 27)
   rw [heap_size_alloc, heap_size_alloc] at this
   exact this
  have hFM : FamsA (some ⟨w3.heap.size + 1, 0, none⟩) [⟨f0.nm, kk, f0.un, f0.he, none, 0, []⟩] W7 := FamsA.oneF (f := ⟨f0.nm, kk, f0.un, f0.he, none, 0, []⟩) hrow ⟨fun h => absurd h (by simp), by intro p hp; cases hp⟩
  have hsM : ∀ f ∈ [(⟨f0.nm, kk, f0.un, f0.he, none, 0, []⟩ : FamD)], f.y.Sm := fun f hf => by
   rw [List.mem_singleton] at hf
   subst hf
   rw [hfz.out]; exact hfs
  have hsz : ((tn ++ (⟨#[45]⟩ : ByteArray))).size ≤ 1000000 := by rw [dash_size]; omega
  have gB0 := gB
  replace gB := gB.ext x7
  replace hA := hA.ext x7
  replace z1 := z1.trans x7
  obtain ⟨bq0, bq1⟩ := (gB0.ext ((((Ext.refl w3).alloc (.cells #[.string f0.nm, .int .i64 kk, .string f0.un, .string f0.he] 32)).alloc (.cells #[.string f0.nm, .int .i64 kk, .string f0.un, .string f0.he, .slice none 0 0] 35)).alloc (.cells #[.string tn, .slice (some ⟨w3.heap.size + 1, 0, none⟩) 1 1] 27))).cells
  by_cases h16 : tn.size = 16
  ·have h16x : (tn.size : Int) = 16 := by omega
   have hw12 := kinds_0a GB h16
   have hw1 : mergeY ([⟨tn, some ⟨b, o, none⟩, c, l⟩, ⟨(tn ++ (⟨#[45]⟩ : ByteArray)), (some ⟨w3.heap.size + 1, 0, none⟩), 1, [⟨f0.nm, kk, f0.un, f0.he, none, 0, []⟩]⟩].map BatD.y) = (19, ⟨#[]⟩, []) := by
    rw [← hw12.1, ← hly.out, ← hfz.out]; rfl
   have hw2 : mergeY ([⟨(tn ++ (⟨#[45]⟩ : ByteArray)), (some ⟨w3.heap.size + 1, 0, none⟩), 1, [⟨f0.nm, kk, f0.un, f0.he, none, 0, []⟩]⟩, ⟨tn, some ⟨b, o, none⟩, c, l⟩].map BatD.y) = (19, ⟨#[]⟩, []) := by
    rw [← hw12.2, ← hly.out, ← hfz.out]; rfl
   replace hw1 := Lib.hid hw1
   replace hw2 := Lib.hid hw2
   clear hw12
   have gM2 := gM
   obtain ⟨b0, b1⟩ := gB.cells
   obtain ⟨m0, m1⟩ := gM2.cells
   have xs := (Ext.refl W7).alloc (.cells #[.string tn, .slice (some ⟨b, o, none⟩) l.length c, .string (tn ++ (⟨#[45]⟩ : ByteArray)), .slice (some ⟨w3.heap.size + 1, 0, none⟩) 1 1] 27)
   have hB2 := bats2 (b1 := ⟨tn, some ⟨b, o, none⟩, c, l⟩) (b2 := ⟨(tn ++ (⟨#[45]⟩ : ByteArray)), (some ⟨w3.heap.size + 1, 0, none⟩), 1, [⟨f0.nm, kk, f0.un, f0.he, none, 0, []⟩]⟩) (heap_last W7 (.cells #[.string tn, .slice (some ⟨b, o, none⟩) l.length c, .string (tn ++ (⟨#[45]⟩ : ByteArray)), .slice (some ⟨w3.heap.size + 1, 0, none⟩) 1 1] 27)) (hA.ext xs) (hFM.ext xs)
   have ME := merge_any _ 2 _ _ hB2 (by simp) (fun x hx => by
    simp only [List.mem_cons, List.not_mem_nil, or_false] at hx
    rcases hx with rfl | rfl
    ·exact ⟨by show l.length ≤ 1000000; omega, by show tn.size ≤ 1000000; omega, hs⟩
    ·exact ⟨by show 1 ≤ 1000000; decide, hsz, hsM⟩)
   change Calls _ _ #[.slice (some ⟨W7.heap.size, 0, none⟩) 2 2] _ _ at ME
   clear hB2
   go_wp2_with fail
   (with_reducible refine ME.mono ?_)
   rintro e w5 ⟨hm, x5⟩
   obtain ⟨ab, cb, Lb, hLb, rfl, _⟩ := hm.is hw1.out
   obtain rfl : Lb = [] := by cases Lb with
    | nil => rfl
    | cons x l => cases hLb
   clear ME hm b0 b1 m0 m1
   have x6 := (Ext.refl w5).alloc (.cells #[.string ⟨#[]⟩, .slice ab 0 cb] 27)
   have g8 : BatIn w5.heap.size ⟨#[]⟩ (.slice ab 0 cb) (w5.alloc (.cells #[.string ⟨#[]⟩, .slice ab 0 cb] 27)) := heap_last _ _
   have xx := (xs.trans x5).trans x6
   replace gB := gB.ext xx
   replace gM := gM.ext xx
   replace hA := hA.ext xx
   replace hFM := hFM.ext xx
   replace z1 := z1.trans xx
   clear xs x5 x6 xx gM2 hLb
   obtain ⟨W8, hW8⟩ : ∃ W8, w5.alloc (.cells #[.string ⟨#[]⟩, .slice ab 0 cb] 27) = W8 := ⟨_, rfl⟩
   rw [hW8] at g8 gB gM hA hFM z1
   obtain ⟨b0, b1⟩ := gB.cells
   obtain ⟨m0, m1⟩ := gM.cells
   have xs := (Ext.refl W8).alloc (.cells #[.string (tn ++ (⟨#[45]⟩ : ByteArray)), .slice (some ⟨w3.heap.size + 1, 0, none⟩) 1 1, .string tn, .slice (some ⟨b, o, none⟩) l.length c] 27)
   have hB2 := bats2 (b1 := ⟨(tn ++ (⟨#[45]⟩ : ByteArray)), (some ⟨w3.heap.size + 1, 0, none⟩), 1, [⟨f0.nm, kk, f0.un, f0.he, none, 0, []⟩]⟩) (b2 := ⟨tn, some ⟨b, o, none⟩, c, l⟩) (heap_last W8 (.cells #[.string (tn ++ (⟨#[45]⟩ : ByteArray)), .slice (some ⟨w3.heap.size + 1, 0, none⟩) 1 1, .string tn, .slice (some ⟨b, o, none⟩) l.length c] 27)) (hFM.ext xs) (hA.ext xs)
   have ME := merge_any _ 2 _ _ hB2 (by simp) (fun x hx => by
    simp only [List.mem_cons, List.not_mem_nil, or_false] at hx
    rcases hx with rfl | rfl
    ·exact ⟨by show 1 ≤ 1000000; decide, hsz, hsM⟩
    ·exact ⟨by show l.length ≤ 1000000; omega, by show tn.size ≤ 1000000; omega, hs⟩)
   change Calls _ _ #[.slice (some ⟨W8.heap.size, 0, none⟩) 2 2] _ _ at ME
   clear hB2
   go_wp2_with fail
   (with_reducible refine ME.mono ?_)
   rintro e w9 ⟨hm, x9⟩
   obtain ⟨ac, cc, Lc, hLc, rfl, _⟩ := hm.is hw2.out
   obtain rfl : Lc = [] := by cases Lc with
    | nil => rfl
    | cons x l => cases hLc
   clear ME hm b0 b1 m0 m1 hW8
   have x10 := (Ext.refl w9).alloc (.cells #[.string ⟨#[]⟩, .slice ac 0 cc] 27)
   have g10 : BatIn w9.heap.size ⟨#[]⟩ (.slice ac 0 cc) (w9.alloc (.cells #[.string ⟨#[]⟩, .slice ac 0 cc] 27)) := heap_last _ _
   obtain ⟨e0, e1⟩ := (g8.ext ((xs.trans x9).trans x10)).cells
   obtain ⟨f0, f1⟩ := g10.cells
   go_wp2_with fail
   go_ret
   exact ⟨rfl, ((z1.trans xs).trans x9).trans x10⟩
  ·have h16x : ¬ (tn.size : Int) = 16 := by omega
   have hw12 := kinds_0b GB h16
   have hw1 : mergeY ([⟨tn, some ⟨b, o, none⟩, c, l⟩, ⟨(tn ++ (⟨#[45]⟩ : ByteArray)), (some ⟨w3.heap.size + 1, 0, none⟩), 1, [⟨f0.nm, kk, f0.un, f0.he, none, 0, []⟩]⟩].map BatD.y) = (18, ⟨#[]⟩, []) := by
    rw [← hw12.1, ← hly.out, ← hfz.out]; rfl
   have hw2 : mergeY ([⟨(tn ++ (⟨#[45]⟩ : ByteArray)), (some ⟨w3.heap.size + 1, 0, none⟩), 1, [⟨f0.nm, kk, f0.un, f0.he, none, 0, []⟩]⟩, ⟨tn, some ⟨b, o, none⟩, c, l⟩].map BatD.y) = (18, ⟨#[]⟩, []) := by
    rw [← hw12.2, ← hly.out, ← hfz.out]; rfl
   replace hw1 := Lib.hid hw1
   replace hw2 := Lib.hid hw2
   clear hw12
   have gM2 := gM
   obtain ⟨b0, b1⟩ := gB.cells
   obtain ⟨m0, m1⟩ := gM2.cells
   have xs := (Ext.refl W7).alloc (.cells #[.string tn, .slice (some ⟨b, o, none⟩) l.length c, .string (tn ++ (⟨#[45]⟩ : ByteArray)), .slice (some ⟨w3.heap.size + 1, 0, none⟩) 1 1] 27)
   have hB2 := bats2 (b1 := ⟨tn, some ⟨b, o, none⟩, c, l⟩) (b2 := ⟨(tn ++ (⟨#[45]⟩ : ByteArray)), (some ⟨w3.heap.size + 1, 0, none⟩), 1, [⟨f0.nm, kk, f0.un, f0.he, none, 0, []⟩]⟩) (heap_last W7 (.cells #[.string tn, .slice (some ⟨b, o, none⟩) l.length c, .string (tn ++ (⟨#[45]⟩ : ByteArray)), .slice (some ⟨w3.heap.size + 1, 0, none⟩) 1 1] 27)) (hA.ext xs) (hFM.ext xs)
   have ME := merge_any _ 2 _ _ hB2 (by simp) (fun x hx => by
    simp only [List.mem_cons, List.not_mem_nil, or_false] at hx
    rcases hx with rfl | rfl
    ·exact ⟨by show l.length ≤ 1000000; omega, by show tn.size ≤ 1000000; omega, hs⟩
    ·exact ⟨by show 1 ≤ 1000000; decide, hsz, hsM⟩)
   change Calls _ _ #[.slice (some ⟨W7.heap.size, 0, none⟩) 2 2] _ _ at ME
   clear hB2
   go_wp2_with fail
   (with_reducible refine ME.mono ?_)
   rintro e w5 ⟨hm, x5⟩
   obtain ⟨ab, cb, Lb, hLb, rfl, _⟩ := hm.is hw1.out
   obtain rfl : Lb = [] := by cases Lb with
    | nil => rfl
    | cons x l => cases hLb
   clear ME hm b0 b1 m0 m1
   have x6 := (Ext.refl w5).alloc (.cells #[.string ⟨#[]⟩, .slice ab 0 cb] 27)
   have g8 : BatIn w5.heap.size ⟨#[]⟩ (.slice ab 0 cb) (w5.alloc (.cells #[.string ⟨#[]⟩, .slice ab 0 cb] 27)) := heap_last _ _
   have xx := (xs.trans x5).trans x6
   replace gB := gB.ext xx
   replace gM := gM.ext xx
   replace hA := hA.ext xx
   replace hFM := hFM.ext xx
   replace z1 := z1.trans xx
   clear xs x5 x6 xx gM2 hLb
   obtain ⟨W8, hW8⟩ : ∃ W8, w5.alloc (.cells #[.string ⟨#[]⟩, .slice ab 0 cb] 27) = W8 := ⟨_, rfl⟩
   rw [hW8] at g8 gB gM hA hFM z1
   obtain ⟨b0, b1⟩ := gB.cells
   obtain ⟨m0, m1⟩ := gM.cells
   have xs := (Ext.refl W8).alloc (.cells #[.string (tn ++ (⟨#[45]⟩ : ByteArray)), .slice (some ⟨w3.heap.size + 1, 0, none⟩) 1 1, .string tn, .slice (some ⟨b, o, none⟩) l.length c] 27)
   have hB2 := bats2 (b1 := ⟨(tn ++ (⟨#[45]⟩ : ByteArray)), (some ⟨w3.heap.size + 1, 0, none⟩), 1, [⟨f0.nm, kk, f0.un, f0.he, none, 0, []⟩]⟩) (b2 := ⟨tn, some ⟨b, o, none⟩, c, l⟩) (heap_last W8 (.cells #[.string (tn ++ (⟨#[45]⟩ : ByteArray)), .slice (some ⟨w3.heap.size + 1, 0, none⟩) 1 1, .string tn, .slice (some ⟨b, o, none⟩) l.length c] 27)) (hFM.ext xs) (hA.ext xs)
   have ME := merge_any _ 2 _ _ hB2 (by simp) (fun x hx => by
    simp only [List.mem_cons, List.not_mem_nil, or_false] at hx
    rcases hx with rfl | rfl
    ·exact ⟨by show 1 ≤ 1000000; decide, hsz, hsM⟩
    ·exact ⟨by show l.length ≤ 1000000; omega, by show tn.size ≤ 1000000; omega, hs⟩)
   change Calls _ _ #[.slice (some ⟨W8.heap.size, 0, none⟩) 2 2] _ _ at ME
   clear hB2
   go_wp2_with fail
   (with_reducible refine ME.mono ?_)
   rintro e w9 ⟨hm, x9⟩
   obtain ⟨ac, cc, Lc, hLc, rfl, _⟩ := hm.is hw2.out
   obtain rfl : Lc = [] := by cases Lc with
    | nil => rfl
    | cons x l => cases hLc
   clear ME hm b0 b1 m0 m1 hW8
   have x10 := (Ext.refl w9).alloc (.cells #[.string ⟨#[]⟩, .slice ac 0 cc] 27)
   have g10 : BatIn w9.heap.size ⟨#[]⟩ (.slice ac 0 cc) (w9.alloc (.cells #[.string ⟨#[]⟩, .slice ac 0 cc] 27)) := heap_last _ _
   obtain ⟨e0, e1⟩ := (g8.ext ((xs.trans x9).trans x10)).cells
   obtain ⟨f0, f1⟩ := g10.cells
   go_wp2_with fail
   go_ret
   exact ⟨rfl, ((z1.trans xs).trans x9).trans x10⟩
 ·have hA00 := hA
  have z00 := z1
  obtain ⟨W7, hW7⟩ : ∃ W7, ((w3.alloc (.cells #[.string f0.nm, .int .i64 kk, .string f0.un, .string f0.he] 32)).alloc (.cells #[.string f0.nm, .int .i64 kk, .string f0.un, .string f0.he, .slice none 0 0] 35)).alloc (.cells #[.string tn, .slice (some ⟨w3.heap.size + 1, 0, none⟩) 1 1] 27) = W7 := ⟨_, rfl⟩
  have x7 : Ext w3 W7 := by rw [← hW7]; exact (((Ext.refl w3).alloc _).alloc _).alloc _
  have hrow : W7.heap[w3.heap.size + 1]? = some (.cells #[.string f0.nm, .int .i64 kk, .string f0.un, .string f0.he, .slice none 0 0] 35 (0, 0)) := by
   rw [← hW7]
   exact (((Ext.refl _).alloc _).heap (by simp)).trans (heap_at2b _ _ _)
  have gM : BatIn (w3.heap.size + 1 + 1) tn (.slice (some ⟨w3.heap.size + 1, 0, none⟩) 1 1) W7 := by
   rw [← hW7]
   have := heap_last ((w3.alloc (.cells #[.string f0.nm, .int .i64 kk, .string f0.un, .string f0.he] 32)).alloc (.cells #[.string f0.nm, .int .i64 kk, .string f0.un, .string f0.he, .slice none 0 0] 35)) (.cells #[.string tn, .slice (some ⟨w3.heap.size + 1, 0, none⟩) 1 1] 27)
   rw [heap_size_alloc, heap_size_alloc] at this
   exact this
  have hFM : FamsA (some ⟨w3.heap.size + 1, 0, none⟩) [⟨f0.nm, kk, f0.un, f0.he, none, 0, []⟩] W7 := FamsA.oneF (f := ⟨f0.nm, kk, f0.un, f0.he, none, 0, []⟩) hrow ⟨fun h => absurd h (by simp), by intro p hp; cases hp⟩
  have hsM : ∀ f ∈ [(⟨f0.nm, kk, f0.un, f0.he, none, 0, []⟩ : FamD)], f.y.Sm := fun f hf => by
   rw [List.mem_singleton] at hf
   subst hf
   rw [hfz.out]; exact hfs
  have hsz : (tn).size ≤ 1000000 := by omega
  have gB0 := gB
  replace gB := gB.ext x7
  replace hA := hA.ext x7
  replace z1 := z1.trans x7
  have xz := (Ext.refl W7).alloc (.cells #[.string ⟨#[]⟩, .int .i64 0, .string ⟨#[]⟩, .string ⟨#[]⟩, .slice none 0 0] 35)
  have hcell : FamIn W7.heap.size ⟨#[]⟩ 0 ⟨#[]⟩ ⟨#[]⟩ (.slice none 0 0) (W7.alloc (.cells #[.string ⟨#[]⟩, .int .i64 0, .string ⟨#[]⟩, .string ⟨#[]⟩, .slice none 0 0] 35)) := heap_last _ _
  have hOwn : OwnR 5 35 FamD.cs (w3.heap.size + 1) (.slice (some ⟨w3.heap.size + 1, 0, none⟩) 1 1) 1 (fun _ => (⟨f0.nm, kk, f0.un, f0.he, none, 0, []⟩ : FamD)) (W7.alloc (.cells #[.string ⟨#[]⟩, .int .i64 0, .string ⟨#[]⟩, .string ⟨#[]⟩, .slice none 0 0] 35)) := by
   refine .inr ⟨w3.heap.size + 1, 1, rfl, Nat.le_refl _, Nat.le_refl _, _, (xz.heap (Array.getElem?_eq_some_iff.1 hrow).1).trans hrow, rfl, fun i hi j hj => ?_⟩
   obtain rfl : i = 0 := by omega
   match j, hj with
   | 0, _ => rfl
   | 1, _ => rfl
   | 2, _ => rfl
   | 3, _ => rfl
   | 4, _ => rfl
  have hc : ∀ i, i < 1 → ∀ j, j < 5 → (W7.alloc (.cells #[.string ⟨#[]⟩, .int .i64 0, .string ⟨#[]⟩, .string ⟨#[]⟩, .slice none 0 0] 35)).cell? ((⟨W7.heap.size, 0, none⟩ : Addr).add (i * 5 + j)) = (FamD.cs FamD.zero)[j]? := by
   intro i hi j hj
   obtain rfl : i = 0 := by omega
   rw [Addr.add_lit, Lib.cell_of_heap hcell]
   match j, hj with
   | 0, _ => rfl
   | 1, _ => rfl
   | 2, _ => rfl
   | 3, _ => rfl
   | 4, _ => rfl
  have hT7 : w3.heap.size + 3 = W7.heap.size := by rw [← hW7]; simp
  obtain ⟨mm0, mm1⟩ := gM.cells
  go_wp2_with (at_builtin; (try rw [hW7]); refine wpList_append_structs (W7.alloc (.cells #[.string ⟨#[]⟩, .int .i64 0, .string ⟨#[]⟩, .string ⟨#[]⟩, .slice none 0 0] 35)) rfl _ _ rfl tyFam (fun _ => rfl) famC_one (by decide) (w3.heap.size + 1) _ 1 (fun _ => (⟨f0.nm, kk, f0.un, f0.he, none, 0, []⟩ : FamD)) rfl hOwn ?c2 ⟨W7.heap.size, 0, none⟩ 1 1 (fun _ => FamD.zero) rfl hc ?c3 ?c4 (.inr (by decide)) ?_)
  case c2 => rw [heap_size_alloc]; omega
  case c3 => decide
  case c4 => decide
  intro v' w4 h1 h2 h3
  have hg1 : ∀ x, (Value.slice (some ⟨w3.heap.size + 1, 0, none⟩) 1 1).ownBlock = some x → x = w3.heap.size + 1 := fun x hx => by injection hx with hx; exact hx.symm
  have X4 : Ext w3 w4 := grown_ext' (x7.trans xz) h2 (Nat.le_refl _) (fun x hx => by have := hg1 x hx; omega)
  have gM4 := (gM.ext xz).grown h2 (fun x hx => by have := hg1 x hx; omega)
  have h1b : OwnR 5 35 FamD.cs (w3.heap.size + 1) v' 2 (fun i => [(⟨f0.nm, kk, f0.un, f0.he, none, 0, []⟩ : FamD), FamD.zero][i]?.getD FamD.zero) w4 := h1.congr (fun i hi => by
   unfold joinF
   match i, hi with
   | 0, _ => rfl
   | 1, _ => rfl)
  obtain ⟨a5, c5, hv5⟩ := h1b.form
  subst hv5
  have h1c := h1b.keep (w' := w4.setCell ⟨w3.heap.size + 1 + 1, 1, none⟩ (.slice a5 2 c5)) (fun x hx => by
   have hne : x ≠ w3.heap.size + 1 + 1 := by
    rcases h3 with h3 | h3
    ·rw [h3] at hx; have := hg1 x hx; omega
    ·rw [h3] at hx; injection hx with hx; (try rw [heap_size_alloc] at hx); omega
   unfold World.setCell
   simp only [Array.getElem?_modify]
   rw [if_neg (fun e => hne e.symm)])
  have gM5 := gM4.set1 (.slice a5 2 c5)
  have X5 := X4.setC (w3.heap.size + 1 + 1) 1 (.slice a5 2 c5) (by omega)
  obtain ⟨a6, c6, hv6, hF6⟩ := h1c.fams (L := [(⟨f0.nm, kk, f0.un, f0.he, none, 0, []⟩ : FamD), FamD.zero]) rfl (fun f hf => by
   simp only [List.mem_cons, List.not_mem_nil, or_false] at hf
   rcases hf with rfl | rfl
   ·exact ⟨fun h => absurd h (by simp), by intro p hp; cases hp⟩
   ·exact ⟨fun h => absurd h (by simp [FamD.zero]), by intro p hp; simp [FamD.zero] at hp⟩)
  injection hv6 with q1 q2 q3
  subst q1 q3
  clear q2
  have fr := fun o => gM4.free o
  obtain ⟨m0, m1⟩ := gM4.cells
  obtain ⟨W9, hW9⟩ : ∃ W9, w4.setCell ⟨w3.heap.size + 1 + 1, 1, none⟩ (.slice a5 2 c5) = W9 := ⟨_, rfl⟩
  rw [hW9] at gM5 X5 hF6
  clear gM gB hA hFM z1 hrow hcell hc hOwn h1 h1b h1c h2 h3 hsM hW7 mm0 mm1
  have gM := gM5
  have gB := gB0.ext X5
  have hA := hA00.ext X5
  have hFM := hF6
  have z1 := z00.trans X5
  have hsM : ∀ f ∈ [(⟨f0.nm, kk, f0.un, f0.he, none, 0, []⟩ : FamD), FamD.zero], f.y.Sm := fun f hf => by
   simp only [List.mem_cons, List.not_mem_nil, or_false] at hf
   rcases hf with rfl | rfl
   ·rw [hfz.out]; exact hfs
   ·exact ⟨by show (0 : Nat) ≤ 1000; decide, by show (0 : Nat) ≤ 1000; decide, by show (0 : Nat) ≤ 1000; decide, by show (0 : Nat) ≤ 1000; decide, by intro q hq; cases hq⟩
  have hw12 := kinds_1 (tn := tn) (f := f0.y) (l := (l.drop 1).map FamD.y) (headK f0.y)
  have hw1 : mergeY ([⟨tn, some ⟨b, o, none⟩, c, l⟩, ⟨tn, a5, c5, [(⟨f0.nm, kk, f0.un, f0.he, none, 0, []⟩ : FamD), FamD.zero]⟩].map BatD.y) = (19, ⟨#[]⟩, []) := by
   rw [← hw12.1, ← hly.out, ← hfz.out]; rfl
  have hw2 : mergeY ([⟨tn, a5, c5, [(⟨f0.nm, kk, f0.un, f0.he, none, 0, []⟩ : FamD), FamD.zero]⟩, ⟨tn, some ⟨b, o, none⟩, c, l⟩].map BatD.y) = (19, ⟨#[]⟩, []) := by
   rw [← hw12.2, ← hly.out, ← hfz.out]; rfl
  replace hw1 := Lib.hid hw1
  replace hw2 := Lib.hid hw2
  clear hw12 gM5 hF6 gM4
  have gM2 := gM
  obtain ⟨b0, b1⟩ := gB.cells
  obtain ⟨m0, m1⟩ := gM2.cells
  have xs := (Ext.refl W9).alloc (.cells #[.string tn, .slice (some ⟨b, o, none⟩) l.length c, .string tn, .slice a5 2 c5] 27)
  have hB2 := bats2 (b1 := ⟨tn, some ⟨b, o, none⟩, c, l⟩) (b2 := ⟨tn, a5, c5, [⟨f0.nm, kk, f0.un, f0.he, none, 0, []⟩, FamD.zero]⟩) (heap_last W9 (.cells #[.string tn, .slice (some ⟨b, o, none⟩) l.length c, .string tn, .slice a5 2 c5] 27)) (hA.ext xs) (hFM.ext xs)
  have ME := merge_any _ 2 _ _ hB2 (by simp) (fun x hx => by
   simp only [List.mem_cons, List.not_mem_nil, or_false] at hx
   rcases hx with rfl | rfl
   ·exact ⟨by show l.length ≤ 1000000; omega, by show tn.size ≤ 1000000; omega, hs⟩
   ·exact ⟨by show 2 ≤ 1000000; decide, hsz, hsM⟩)
  change Calls _ _ #[.slice (some ⟨W9.heap.size, 0, none⟩) 2 2] _ _ at ME
  clear hB2
  go_wp2_with fail
  (with_reducible refine ME.mono ?_)
  rintro e w5 ⟨hm, x5⟩
  obtain ⟨ab, cb, Lb, hLb, rfl, _⟩ := hm.is hw1.out
  obtain rfl : Lb = [] := by cases Lb with
   | nil => rfl
   | cons x l => cases hLb
  clear ME hm b0 b1 m0 m1
  have x6 := (Ext.refl w5).alloc (.cells #[.string ⟨#[]⟩, .slice ab 0 cb] 27)
  have g8 : BatIn w5.heap.size ⟨#[]⟩ (.slice ab 0 cb) (w5.alloc (.cells #[.string ⟨#[]⟩, .slice ab 0 cb] 27)) := heap_last _ _
  have xx := (xs.trans x5).trans x6
  replace gB := gB.ext xx
  replace gM := gM.ext xx
  replace hA := hA.ext xx
  replace hFM := hFM.ext xx
  replace z1 := z1.trans xx
  clear xs x5 x6 xx gM2 hLb
  obtain ⟨W8, hW8⟩ : ∃ W8, w5.alloc (.cells #[.string ⟨#[]⟩, .slice ab 0 cb] 27) = W8 := ⟨_, rfl⟩
  rw [hW8] at g8 gB gM hA hFM z1
  obtain ⟨b0, b1⟩ := gB.cells
  obtain ⟨m0, m1⟩ := gM.cells
  have xs := (Ext.refl W8).alloc (.cells #[.string tn, .slice a5 2 c5, .string tn, .slice (some ⟨b, o, none⟩) l.length c] 27)
  have hB2 := bats2 (b1 := ⟨tn, a5, c5, [⟨f0.nm, kk, f0.un, f0.he, none, 0, []⟩, FamD.zero]⟩) (b2 := ⟨tn, some ⟨b, o, none⟩, c, l⟩) (heap_last W8 (.cells #[.string tn, .slice a5 2 c5, .string tn, .slice (some ⟨b, o, none⟩) l.length c] 27)) (hFM.ext xs) (hA.ext xs)
  have ME := merge_any _ 2 _ _ hB2 (by simp) (fun x hx => by
   simp only [List.mem_cons, List.not_mem_nil, or_false] at hx
   rcases hx with rfl | rfl
   ·exact ⟨by show 2 ≤ 1000000; decide, hsz, hsM⟩
   ·exact ⟨by show l.length ≤ 1000000; omega, by show tn.size ≤ 1000000; omega, hs⟩)
  change Calls _ _ #[.slice (some ⟨W8.heap.size, 0, none⟩) 2 2] _ _ at ME
  clear hB2
  go_wp2_with fail
  (with_reducible refine ME.mono ?_)
  rintro e w9 ⟨hm, x9⟩
  obtain ⟨ac, cc, Lc, hLc, rfl, _⟩ := hm.is hw2.out
  obtain rfl : Lc = [] := by cases Lc with
   | nil => rfl
   | cons x l => cases hLc
  clear ME hm b0 b1 m0 m1 hW8
  have x10 := (Ext.refl w9).alloc (.cells #[.string ⟨#[]⟩, .slice ac 0 cc] 27)
  have g10 : BatIn w9.heap.size ⟨#[]⟩ (.slice ac 0 cc) (w9.alloc (.cells #[.string ⟨#[]⟩, .slice ac 0 cc] 27)) := heap_last _ _
  obtain ⟨e0, e1⟩ := (g8.ext ((xs.trans x9).trans x10)).cells
  obtain ⟨f0, f1⟩ := g10.cells
  go_wp2_with fail
  go_ret
  exact ⟨rfl, ((z1.trans xs).trans x9).trans x10⟩
 ·obtain ⟨W7, hW7⟩ : ∃ W7, ((w3.alloc (.cells #[.string f0.nm, .int .i64 kk, .string f0.un, .string f0.he] 32)).alloc (.cells #[.string f0.nm, .int .i64 kk, .string f0.un, .string f0.he, .slice none 0 0] 35)).alloc (.cells #[.string tn, .slice (some ⟨w3.heap.size + 1, 0, none⟩) 1 1] 27) = W7 := ⟨_, rfl⟩
  have x7 : Ext w3 W7 := by rw [← hW7]; exact (((Ext.refl w3).alloc _).alloc _).alloc _
  have hrow : W7.heap[w3.heap.size + 1]? = some (.cells #[.string f0.nm, .int .i64 kk, .string f0.un, .string f0.he, .slice none 0 0] 35 (0, 0)) := by
   rw [← hW7]
   exact (((Ext.refl _).alloc _).heap (by simp)).trans (heap_at2b _ _ _)
  have gM : BatIn (w3.heap.size + 1 + 1) tn (.slice (some ⟨w3.heap.size + 1, 0, none⟩) 1 1) W7 := by
   rw [← hW7]
   have := heap_last ((w3.alloc (.cells #[.string f0.nm, .int .i64 kk, .string f0.un, .string f0.he] 32)).alloc (.cells #[.string f0.nm, .int .i64 kk, .string f0.un, .string f0.he, .slice none 0 0] 35)) (.cells #[.string tn, .slice (some ⟨w3.heap.size + 1, 0, none⟩) 1 1] 27)
   rw [heap_size_alloc, heap_size_alloc] at this
   exact this
  have hFM : FamsA (some ⟨w3.heap.size + 1, 0, none⟩) [⟨f0.nm, kk, f0.un, f0.he, none, 0, []⟩] W7 := FamsA.oneF (f := ⟨f0.nm, kk, f0.un, f0.he, none, 0, []⟩) hrow ⟨fun h => absurd h (by simp), by intro p hp; cases hp⟩
  have hsM : ∀ f ∈ [(⟨f0.nm, kk, f0.un, f0.he, none, 0, []⟩ : FamD)], f.y.Sm := fun f hf => by
   rw [List.mem_singleton] at hf
   subst hf
   rw [hfz.out]; exact hfs
  have hsz : (tn).size ≤ 1000000 := by omega
  have gB0 := gB
  replace gB := gB.ext x7
  replace hA := hA.ext x7
  replace z1 := z1.trans x7
  have hw12 := kinds_13 GB
  have hw1 : mergeY ([⟨tn, some ⟨b, o, none⟩, c, l⟩, ⟨tn, (some ⟨w3.heap.size + 1, 0, none⟩), 1, [⟨f0.nm, kk, f0.un, f0.he, none, 0, []⟩]⟩].map BatD.y) = (13, ⟨#[]⟩, []) := by
   rw [← hw12.1, ← hly.out, ← hfz.out]; rfl
  have hw2 : mergeY ([⟨tn, (some ⟨w3.heap.size + 1, 0, none⟩), 1, [⟨f0.nm, kk, f0.un, f0.he, none, 0, []⟩]⟩, ⟨tn, some ⟨b, o, none⟩, c, l⟩].map BatD.y) = (13, ⟨#[]⟩, []) := by
   rw [← hw12.2, ← hly.out, ← hfz.out]; rfl
  replace hw1 := Lib.hid hw1
  replace hw2 := Lib.hid hw2
  clear hw12
  have gM2 := gM
  obtain ⟨b0, b1⟩ := gB.cells
  obtain ⟨m0, m1⟩ := gM2.cells
  have xs := (Ext.refl W7).alloc (.cells #[.string tn, .slice (some ⟨b, o, none⟩) l.length c, .string tn, .slice (some ⟨w3.heap.size + 1, 0, none⟩) 1 1] 27)
  have hB2 := bats2 (b1 := ⟨tn, some ⟨b, o, none⟩, c, l⟩) (b2 := ⟨tn, (some ⟨w3.heap.size + 1, 0, none⟩), 1, [⟨f0.nm, kk, f0.un, f0.he, none, 0, []⟩]⟩) (heap_last W7 (.cells #[.string tn, .slice (some ⟨b, o, none⟩) l.length c, .string tn, .slice (some ⟨w3.heap.size + 1, 0, none⟩) 1 1] 27)) (hA.ext xs) (hFM.ext xs)
  have ME := merge_any _ 2 _ _ hB2 (by simp) (fun x hx => by
   simp only [List.mem_cons, List.not_mem_nil, or_false] at hx
   rcases hx with rfl | rfl
   ·exact ⟨by show l.length ≤ 1000000; omega, by show tn.size ≤ 1000000; omega, hs⟩
   ·exact ⟨by show 1 ≤ 1000000; decide, hsz, hsM⟩)
  change Calls _ _ #[.slice (some ⟨W7.heap.size, 0, none⟩) 2 2] _ _ at ME
  clear hB2
  go_wp2_with fail
  (with_reducible refine ME.mono ?_)
  rintro e w5 ⟨hm, x5⟩
  obtain ⟨ab, cb, Lb, hLb, rfl, _⟩ := hm.is hw1.out
  obtain rfl : Lb = [] := by cases Lb with
   | nil => rfl
   | cons x l => cases hLb
  clear ME hm b0 b1 m0 m1
  have x6 := (Ext.refl w5).alloc (.cells #[.string ⟨#[]⟩, .slice ab 0 cb] 27)
  have g8 : BatIn w5.heap.size ⟨#[]⟩ (.slice ab 0 cb) (w5.alloc (.cells #[.string ⟨#[]⟩, .slice ab 0 cb] 27)) := heap_last _ _
  have xx := (xs.trans x5).trans x6
  replace gB := gB.ext xx
  replace gM := gM.ext xx
  replace hA := hA.ext xx
  replace hFM := hFM.ext xx
  replace z1 := z1.trans xx
  clear xs x5 x6 xx gM2 hLb
  obtain ⟨W8, hW8⟩ : ∃ W8, w5.alloc (.cells #[.string ⟨#[]⟩, .slice ab 0 cb] 27) = W8 := ⟨_, rfl⟩
  rw [hW8] at g8 gB gM hA hFM z1
  obtain ⟨b0, b1⟩ := gB.cells
  obtain ⟨m0, m1⟩ := gM.cells
  have xs := (Ext.refl W8).alloc (.cells #[.string tn, .slice (some ⟨w3.heap.size + 1, 0, none⟩) 1 1, .string tn, .slice (some ⟨b, o, none⟩) l.length c] 27)
  have hB2 := bats2 (b1 := ⟨tn, (some ⟨w3.heap.size + 1, 0, none⟩), 1, [⟨f0.nm, kk, f0.un, f0.he, none, 0, []⟩]⟩) (b2 := ⟨tn, some ⟨b, o, none⟩, c, l⟩) (heap_last W8 (.cells #[.string tn, .slice (some ⟨w3.heap.size + 1, 0, none⟩) 1 1, .string tn, .slice (some ⟨b, o, none⟩) l.length c] 27)) (hFM.ext xs) (hA.ext xs)
  have ME := merge_any _ 2 _ _ hB2 (by simp) (fun x hx => by
   simp only [List.mem_cons, List.not_mem_nil, or_false] at hx
   rcases hx with rfl | rfl
   ·exact ⟨by show 1 ≤ 1000000; decide, hsz, hsM⟩
   ·exact ⟨by show l.length ≤ 1000000; omega, by show tn.size ≤ 1000000; omega, hs⟩)
  change Calls _ _ #[.slice (some ⟨W8.heap.size, 0, none⟩) 2 2] _ _ at ME
  clear hB2
  go_wp2_with fail
  (with_reducible refine ME.mono ?_)
  rintro e w9 ⟨hm, x9⟩
  obtain ⟨ac, cc, Lc, hLc, rfl, _⟩ := hm.is hw2.out
  obtain rfl : Lc = [] := by cases Lc with
   | nil => rfl
   | cons x l => cases hLc
  clear ME hm b0 b1 m0 m1 hW8
  have x10 := (Ext.refl w9).alloc (.cells #[.string ⟨#[]⟩, .slice ac 0 cc] 27)
  have g10 : BatIn w9.heap.size ⟨#[]⟩ (.slice ac 0 cc) (w9.alloc (.cells #[.string ⟨#[]⟩, .slice ac 0 cc] 27)) := heap_last _ _
  obtain ⟨e0, e1⟩ := (g8.ext ((xs.trans x9).trans x10)).cells
  obtain ⟨f0, f1⟩ := g10.cells
  go_wp2_with fail
  go_ret
  exact ⟨rfl, ((z1.trans xs).trans x9).trans x10⟩
end Go.Proofs.YtjjnmefihdjglaaGreat
