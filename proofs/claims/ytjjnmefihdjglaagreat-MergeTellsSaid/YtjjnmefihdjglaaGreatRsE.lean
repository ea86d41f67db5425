import Derived.Test.YtjjnmefihdjglaaGreatRsD
import Derived.Test.YtjjnmefihdjglaaGreatPtAll
set_option maxRecDepth 100000
set_option maxHeartbeats 64000000
set_option linter.all false
namespace Go.Proofs.YtjjnmefihdjglaaGreat
open Go.RowKit
theorem one_src {g : Nat} {q : PtD} {w : World} (h : PtsA (some ⟨g,0,none⟩) [q] w) : ∀ i,i < 1 → ∀ j,j < 9 → w.cell? ((⟨g,0,none⟩ : Addr).add (i * 9 + j)) = (PtD.cs q)[j]? := fun i hi j hj => by
 have := PtsA.src h i hi j hj
 rw [this]
 obtain rfl : i = 0 := by omega
 rfl
def RepTo (G : List PtD) (m : Nat) (p c : PtD) : Prop := (c = p ∧ ∀ y ∈ G.take m,fD p y ≠ 0) ∨ (c ∈ G ∧ fD p c = 0)
theorem RepTo.step {G : List PtD} {m : Nat} {p c : PtD} (h : RepTo G m p c) (hm : m < G.length) : (fD c G[m] = 0 → RepTo G (m + 1) p G[m]) ∧ (fD c G[m] ≠ 0 → RepTo G (m + 1) p c) := by
 constructor
 ·intro e
  refine .inr ⟨List.getElem_mem hm,?_⟩
  rcases h with ⟨rfl,_⟩ | ⟨_,h⟩
  ·exact e
  ·exact fD_eqv h e
 ·intro e
  rcases h with ⟨rfl,h⟩ | h
  ·refine .inl ⟨rfl,fun y hy => ?_⟩
   rw [List.take_add_one,List.getElem?_eq_getElem hm,Option.toList_some] at hy
   rcases List.mem_append.1 hy with hy | hy
   ·exact h y hy
   ·rw [List.mem_singleton] at hy
    subst hy; exact e
  ·exact .inr h
theorem RepTo.all {G : List PtD} {p c : PtD} (h : RepTo G G.length p c) : RepOf G p c := by
 rcases h with ⟨e,h⟩ | h
 ·exact .inl ⟨e,by rwa [List.take_length] at h⟩
 ·exact .inr h
structure RepsU (F G O : List PtD) : Prop where
 mem : ∀ c ∈ O,c ∈ F ++ G
 rep : ∀ i (h : i < F.length) (h' : i < O.length),RepOf G F[i] O[i]
theorem RepsU.nil (F G : List PtD) : RepsU F G [] := ⟨fun c hc => (by cases hc),fun i _ h => absurd h (by simp)⟩
theorem RepsU.push {F G O : List PtD} (h : RepsU F G O) (hk : O.length < F.length) {c : PtD} (hc : RepOf G F[O.length] c) (hm : c ∈ F ++ G) : RepsU F G (O ++ [c]) := by
 refine ⟨fun x hx => ?_,fun i hi hi' => ?_⟩
 ·rcases List.mem_append.1 hx with hx | hx
  ·exact h.mem x hx
  ·rw [List.mem_singleton] at hx; exact hx ▸ hm
 ·by_cases e : i < O.length
  ·rw [List.getElem_append_left e]; exact h.rep i hi e
  ·rw [List.length_append,List.length_singleton] at hi'
   obtain rfl : i = O.length := by omega
   rw [List.getElem_append_right (by omega)]
   simpa using hc
theorem rPut_any (f g : FamD) (w : World) (hf : PtsA f.pa f.ps w) (hg : PtsA g.pa g.ps w) (sf : f.y.Sm) (sg : g.y.Sm) (hsz : f.ps.length + g.ps.length ≤ 1000) :
  Calls Tryz.prog 30 #[.agg #[.string f.nm,.int .i64 f.k,.string f.un,.string f.he,.slice f.pa f.ps.length f.pc],.agg #[.string g.nm,.int .i64 g.k,.string g.un,.string g.he,.slice g.pa g.ps.length g.pc]] w fun e w' => SFTold w.heap.size (f.ps ++ g.ps) (putY f.y g.y) e w' ∧ Ext w w' := by
 obtain ⟨R,hR⟩ : ∃ R,putY f.y g.y = R := ⟨_,rfl⟩
 rw [hR]
 have bad : Hid (¬ (f.nm = g.nm ∧ f.k = g.k ∧ goodF f.y = true ∧ goodF g.y = true) → R = none) := Lib.hid (fun h => by rw [← hR]; exact if_neg h)
 have good : Hid (f.nm = g.nm → f.k = g.k → goodF f.y = true → goodF g.y = true → ∀ (O : List PtD) (un he : ByteArray),Reps f.ps g.ps O → (un = if g.un.toList.isEmpty = true then f.un else g.un) → (he = if g.he.toList.isEmpty = true then f.he else g.he) → srt ⟨f.nm,f.k,un,he,(O ++ g.ps.filter (fun y => !(inFs f.ps y))).map PtD.y⟩ = R) :=
  Lib.hid (fun h1 h2 h3 h4 O un he h5 h6 h7 => by rw [← hR]; exact dput_is h3 h4 h1 h2 h5 h6 h7)
 clear hR
 have GF := fun W (x : Ext w W) => rFamily_any f W (hf.ext x) sf
 have GG := fun W (x : Ext w W) => rFamily_any g W (hg.ext x) sg
 have lab : Hid (∀ q ∈ f.ps ++ g.ps,q.l.length ≤ 1000) := Lib.hid (fun q hq => by
  rcases List.mem_append.1 hq with hq | hq
  ·exact sf.ll q hq
  ·exact sg.ll q hq)
 obtain ⟨gf,hgf⟩ : ∃ x,goodF f.y = x := ⟨_,rfl⟩
 obtain ⟨gg,hgg⟩ : ∃ x,goodF g.y = x := ⟨_,rfl⟩
 rw [hgf] at GF
 rw [hgg] at GG
 replace hgf := Lib.hid hgf
 replace hgg := Lib.hid hgg
 unfold FamD.v at GF GG
 obtain ⟨fn,fk,fu,fh,fpa,fpc,fps⟩ := f
 obtain ⟨gn,gk,gu,gh,gpa,gpc,gps⟩ := g
 have sfu : fn.size ≤ 1000 ∧ fu.size ≤ 1000 ∧ fh.size ≤ 1000 ∧ gu.size ≤ 1000 ∧ gh.size ≤ 1000 := ⟨sf.n,sf.u,sf.h,sg.u,sg.h⟩
 clear sf sg
 dsimp only at hf hg hsz bad good GF GG lab ⊢
 have okf : ∀ p ∈ fps,p.Ok w := hf.2
 have okg : ∀ p ∈ gps,p.Ok w := hg.2
 obtain ⟨W,hW⟩ : ∃ W,((w.alloc (.cells #[.string fn,.int .i64 fk,.string fu,.string fh,.slice fpa fps.length fpc] 35)).alloc (.cells #[.string gn,.int .i64 gk,.string gu,.string gh,.slice gpa gps.length gpc] 35)).alloc (.cells #[.string ⟨#[]⟩,.int .i64 0,.string ⟨#[]⟩,.string ⟨#[]⟩,.slice none 0 0] 35) = W := ⟨_,rfl⟩
 have xw : Ext w W := by rw [← hW]; exact (((Ext.refl w).alloc _).alloc _).alloc _
 have gA : FamIn w.heap.size fn fk fu fh (.slice fpa fps.length fpc) W := by rw [← hW]; exact FamIn.ext (heap_at2a _ _ _) ((Ext.refl _).alloc _)
 have gB : FamIn (w.heap.size + 1) gn gk gu gh (.slice gpa gps.length gpc) W := by rw [← hW]; exact FamIn.ext (heap_at2b _ _ _) ((Ext.refl _).alloc _)
 have gR : FamIn (w.heap.size + 1 + 1) ⟨#[]⟩ 0 ⟨#[]⟩ ⟨#[]⟩ (.slice none 0 0) W := by
  rw [← hW]
  have := heap_last ((w.alloc (.cells #[.string fn,.int .i64 fk,.string fu,.string fh,.slice fpa fps.length fpc] 35)).alloc (.cells #[.string gn,.int .i64 gk,.string gu,.string gh,.slice gpa gps.length gpc] 35)) (.cells #[.string ⟨#[]⟩,.int .i64 0,.string ⟨#[]⟩,.string ⟨#[]⟩,.slice none 0 0] 35)
  rw [heap_size_alloc,heap_size_alloc] at this
  exact this
 replace hW := Lib.hid hW
 obtain ⟨B,hB⟩ : ∃ B,w.heap.size = B := ⟨_,rfl⟩
 rw [hB] at gA gB gR
 have hwB : w.heap.size ≤ B := by omega
 have hz2 : w.heap.size ≤ B + 1 + 1 := by omega
 obtain ⟨c0,c1,c2,c3,c4⟩ := gA.cells
 obtain ⟨d0,d1,d2,d3,d4⟩ := gB.cells
 have en := eq_is fn gn
 go_enter Tryz.func30,Tryz.ntmps30
 by_cases hnm : fn = gn
 rotate_left
 ·rw [decide_eq_false hnm] at en
  have HB := Lib.hid (bad.out (fun h => hnm h.1))
  clear bad good hnm GF GG hf hg hgf hgg
  obtain ⟨e0,e1,e2,e3,e4⟩ := gR.cells
  have fr := fun o => gR.free o
  have XF := xw
  go_wp2_with fail
  try rw [hB]
  try rw [hW.out]
  try go_wp2_with fail
  refine bodyPost_ret (v := .tuple #[.agg #[.string ⟨#[]⟩,.int .i64 0,.string ⟨#[]⟩,.string ⟨#[]⟩,.slice none 0 0],.bool false]) ?_ rfl ⟨⟨FamD.zero,false,rfl,(fun h => absurd h (by simp [FamD.zero])),(by intro p hp; simp [FamD.zero] at hp),(fun h => by cases h),fun _ => ⟨HB.out,rfl⟩⟩,by first | exact XF | exact (((((xw.setC (B + 1 + 1) 0 _ hz2).setC (B + 1 + 1) 1 _ hz2).setC (B + 1 + 1) 2 _ hz2).setC (B + 1 + 1) 3 _ hz2).setC (B + 1 + 1) 4 _ hz2)⟩
  simp [results,Tryz.results30,go_sem,e0,e1,e2,e3,e4]
 rw [decide_eq_true hnm] at en
 replace hnm := Lib.hid hnm
 by_cases hkk : fk = gk
 rotate_left
 ·have HB := Lib.hid (bad.out (fun h => hkk h.2.1))
  have hkb : (fk != gk) = true := by simpa using hkk
  clear bad good hnm GF GG hf hg hgf hgg
  obtain ⟨e0,e1,e2,e3,e4⟩ := gR.cells
  have fr := fun o => gR.free o
  have XF := xw
  go_wp2_with fail
  try rw [hB]
  try rw [hW.out]
  try go_wp2_with fail
  refine bodyPost_ret (v := .tuple #[.agg #[.string ⟨#[]⟩,.int .i64 0,.string ⟨#[]⟩,.string ⟨#[]⟩,.slice none 0 0],.bool false]) ?_ rfl ⟨⟨FamD.zero,false,rfl,(fun h => absurd h (by simp [FamD.zero])),(by intro p hp; simp [FamD.zero] at hp),(fun h => by cases h),fun _ => ⟨HB.out,rfl⟩⟩,by first | exact XF | exact (((((xw.setC (B + 1 + 1) 0 _ hz2).setC (B + 1 + 1) 1 _ hz2).setC (B + 1 + 1) 2 _ hz2).setC (B + 1 + 1) 3 _ hz2).setC (B + 1 + 1) 4 _ hz2)⟩
  simp [results,Tryz.results30,go_sem,e0,e1,e2,e3,e4]
 have hkb : (fk != gk) = false := by simp [hkk]
 replace hkk := Lib.hid hkk
 go_wp2_with fail
 try rw [hB]
 try rw [hW.out]
 (with_reducible refine (GF _ xw).mono ?_)
 rintro e w1 ⟨rfl,y1⟩
 replace gA := gA.ext y1
 replace gB := gB.ext y1
 replace gR := gR.ext y1
 replace xw := xw.trans y1
 clear c0 c1 c2 c3 c4 d0 d1 d2 d3 d4 hW GF y1
 obtain ⟨c0,c1,c2,c3,c4⟩ := gA.cells
 obtain ⟨d0,d1,d2,d3,d4⟩ := gB.cells
 cases gf
 ·have HB := Lib.hid (bad.out (fun h => by rw [hgf.out] at h; exact absurd h.2.2.1 (by decide)))
  clear bad good GG hf hg hgf hgg
  obtain ⟨e0,e1,e2,e3,e4⟩ := gR.cells
  have fr := fun o => gR.free o
  have XF := xw
  go_wp2_with fail
  refine bodyPost_ret (v := .tuple #[.agg #[.string ⟨#[]⟩,.int .i64 0,.string ⟨#[]⟩,.string ⟨#[]⟩,.slice none 0 0],.bool false]) ?_ rfl ⟨⟨FamD.zero,false,rfl,(fun h => absurd h (by simp [FamD.zero])),(by intro p hp; simp [FamD.zero] at hp),(fun h => by cases h),fun _ => ⟨HB.out,rfl⟩⟩,by first | exact XF | exact (((((xw.setC (B + 1 + 1) 0 _ hz2).setC (B + 1 + 1) 1 _ hz2).setC (B + 1 + 1) 2 _ hz2).setC (B + 1 + 1) 3 _ hz2).setC (B + 1 + 1) 4 _ hz2)⟩
  simp [results,Tryz.results30,go_sem,e0,e1,e2,e3,e4]
 go_wp2_with fail
 (with_reducible refine (GG _ xw).mono ?_)
 rintro e w2 ⟨rfl,y1⟩
 replace gA := gA.ext y1
 replace gB := gB.ext y1
 replace gR := gR.ext y1
 replace xw := xw.trans y1
 clear c0 c1 c2 c3 c4 d0 d1 d2 d3 d4 GG y1
 obtain ⟨c0,c1,c2,c3,c4⟩ := gA.cells
 obtain ⟨d0,d1,d2,d3,d4⟩ := gB.cells
 cases gg
 ·have HB := Lib.hid (bad.out (fun h => by rw [hgg.out] at h; exact absurd h.2.2.2 (by decide)))
  clear bad good hf hg hgf hgg
  obtain ⟨e0,e1,e2,e3,e4⟩ := gR.cells
  have fr := fun o => gR.free o
  have XF := xw
  go_wp2_with fail
  refine bodyPost_ret (v := .tuple #[.agg #[.string ⟨#[]⟩,.int .i64 0,.string ⟨#[]⟩,.string ⟨#[]⟩,.slice none 0 0],.bool false]) ?_ rfl ⟨⟨FamD.zero,false,rfl,(fun h => absurd h (by simp [FamD.zero])),(by intro p hp; simp [FamD.zero] at hp),(fun h => by cases h),fun _ => ⟨HB.out,rfl⟩⟩,by first | exact XF | exact (((((xw.setC (B + 1 + 1) 0 _ hz2).setC (B + 1 + 1) 1 _ hz2).setC (B + 1 + 1) 2 _ hz2).setC (B + 1 + 1) 3 _ hz2).setC (B + 1 + 1) 4 _ hz2)⟩
  simp [results,Tryz.results30,go_sem,e0,e1,e2,e3,e4]
 have HG := Lib.hid (good.out hnm.out hkk.out hgf.out hgg.out)
 have hnk := Lib.hid (And.intro hnm.out hkk.out)
 clear bad good hnm hkk hkb en hgf hgg
 have y2 := (Ext.refl w2).alloc (.cells #[.string fn,.int .i64 fk,.string fu,.string fh,.slice none 0 0] 35)
 have gX : FamIn w2.heap.size fn fk fu fh (.slice none 0 0) (w2.alloc (.cells #[.string fn,.int .i64 fk,.string fu,.string fh,.slice none 0 0] 35)) := heap_last _ _
 have hBX : B + 1 + 1 < w2.heap.size := gR.lt
 replace gA := gA.ext y2
 replace gB := gB.ext y2
 replace gR := gR.ext y2
 replace xw := xw.trans y2
 clear y2
 clear d0 d1 d2 d3 d4
 obtain ⟨d0,d1,d2,d3,d4⟩ := gB.cells
 go_upto_if 46 with fail
 clear d0 d1 d2 d3 d4
 obtain ⟨w3,hw3⟩ : ∃ x,w2.alloc (.cells #[.string fn,.int .i64 fk,.string fu,.string fh,.slice none 0 0] 35) = x := ⟨_,rfl⟩
 rw [hw3] at gA gB gR gX xw ⊢
 obtain ⟨d0,d1,d2,d3,d4⟩ := gB.cells
 obtain ⟨X,hX⟩ : ∃ x,w2.heap.size = x := ⟨_,rfl⟩
 rw [hX] at gX hBX ⊢
 have hXw : w.heap.size ≤ X := by omega
 clear c0 c1 c2 c3 c4 hw3 hX
 obtain ⟨un,hun⟩ : ∃ un,(if gu.toList.isEmpty = true then fu else gu) = un := ⟨_,rfl⟩
 obtain ⟨he,hhe⟩ : ∃ he,(if gh.toList.isEmpty = true then fh else gh) = he := ⟨_,rfl⟩
 replace hun := Lib.hid hun
 replace hhe := Lib.hid hhe
 go_cut [] (fun wx => FamIn X fn fk un fh (.slice none 0 0) wx ∧ FamIn B fn fk fu fh (.slice fpa fps.length fpc) wx ∧ FamIn (B + 1) gn gk gu gh (.slice gpa gps.length gpc) wx ∧ FamIn (B + 1 + 1) ⟨#[]⟩ 0 ⟨#[]⟩ ⟨#[]⟩ (.slice none 0 0) wx ∧ Ext w wx)
 case first =>
  have fr := fun o => gX.free o
  obtain ⟨e0,e1,e2,e3,e4⟩ := gX.cells
  cases hu : gu.toList.isEmpty
  ·obtain rfl : gu = un := by rw [← hun.out,hu]; rfl
   go_wp2_with fail
   go_meet
   case rel => exact ⟨gX.set2 gu,gA.setC X 2 _ (by omega),gB.setC X 2 _ (by omega),gR.setC X 2 _ (by omega),xw.setC X 2 _ hXw⟩
  ·obtain rfl : fu = un := by rw [← hun.out,hu]; rfl
   go_wp2_with fail
   go_meet
   case rel => exact ⟨gX,gA,gB,gR,xw⟩
 case rest =>
 obtain ⟨gX,gA,gB,gR,xw⟩ := hcut
 rename World => w5
 clear d0 d1 d2 d3 d4
 obtain ⟨d0,d1,d2,d3,d4⟩ := gB.cells
 go_upto_if 55 with fail
 go_cut [] (fun wx => FamIn X fn fk un he (.slice none 0 0) wx ∧ FamIn B fn fk fu fh (.slice fpa fps.length fpc) wx ∧ FamIn (B + 1) gn gk gu gh (.slice gpa gps.length gpc) wx ∧ FamIn (B + 1 + 1) ⟨#[]⟩ 0 ⟨#[]⟩ ⟨#[]⟩ (.slice none 0 0) wx ∧ Ext w wx)
 case first =>
  have fr := fun o => gX.free o
  obtain ⟨e0,e1,e2,e3,e4⟩ := gX.cells
  cases hu : gh.toList.isEmpty
  ·obtain rfl : gh = he := by rw [← hhe.out,hu]; rfl
   go_wp2_with fail
   go_meet
   case rel => exact ⟨gX.set3 gh,gA.setC X 3 _ (by omega),gB.setC X 3 _ (by omega),gR.setC X 3 _ (by omega),xw.setC X 3 _ hXw⟩
  ·obtain rfl : fh = he := by rw [← hhe.out,hu]; rfl
   go_wp2_with fail
   go_meet
   case rel => exact ⟨gX,gA,gB,gR,xw⟩
 case rest =>
 obtain ⟨gX,gA,gB,gR,xw⟩ := hcut
 rename World => w6
 clear d0 d1 d2 d3 d4
 obtain ⟨N,hN⟩ : ∃ N,X + 1 = N := ⟨_,rfl⟩
 have hXN : X < N := by omega
 have hN6 : N ≤ w6.heap.size := by have := gX.lt; omega
 clear hN
 go_wp2_with fail
 go_loopw [7] (fun i wr => ∃ (k : Nat) (O : List PtD) (v : Value),i = .int .i64 k ∧ k ≤ fps.length ∧ OwnR 9 40 PtD.cs N v O.length (fun i => O[i]?.getD PtD.zero) wr ∧ FamIn X fn fk un he v wr ∧ FamIn B fn fk fu fh (.slice fpa fps.length fpc) wr ∧ FamIn (B + 1) gn gk gu gh (.slice gpa gps.length gpc) wr ∧ FamIn (B + 1 + 1) ⟨#[]⟩ 0 ⟨#[]⟩ ⟨#[]⟩ (.slice none 0 0) wr ∧ Hid (O.length = k ∧ RepsU fps gps O) ∧ Ext w wr ∧ N ≤ wr.heap.size) (fun i _ => fps.length - (intOf i).toNat)
 case atStart => exact ⟨0,[],_,rfl,Nat.zero_le _,OwnR.nil _ _ _,gX,gA,gB,gR,Lib.hid ⟨rfl,RepsU.nil _ _⟩,xw,hN6⟩
 case round =>
  clear gX gA gB gR xw hN6
  obtain ⟨k,O,v,rfl,hk,hO,gX,gA,gB,gR,hQ,xw,hNw⟩ := hrel
  obtain ⟨av,cv,hv⟩ := hO.form
  subst hv
  obtain ⟨c0,c1,c2,c3,c4⟩ := gA.cells
  by_cases hlt : k < fps.length
  ·have hOn : Hid (O.length = k ∧ k < 1000) := Lib.hid ⟨hQ.out.1,by omega⟩
   obtain ⟨fb,fo,rfl,hfb0,hPP⟩ := hf.1 (by omega)
   have hpm := List.getElem_mem hlt
   obtain ⟨x0,x1,x2,x3,x4,x5,x6,x7,x8⟩ := hPP k hlt
   obtain ⟨p,hp⟩ : ∃ p,fps[k] = p := ⟨_,rfl⟩
   rw [hp] at hpm x0 x1 x2 x3 x4 x5 x6 x7 x8
   replace hp := Lib.hid hp
   replace x0 := (Ext.cell xw hfb0).trans x0
   replace x1 := (Ext.cell xw hfb0).trans x1
   replace x2 := (Ext.cell xw hfb0).trans x2
   replace x3 := (Ext.cell xw hfb0).trans x3
   replace x4 := (Ext.cell xw hfb0).trans x4
   replace x5 := (Ext.cell xw hfb0).trans x5
   replace x6 := (Ext.cell xw hfb0).trans x6
   replace x7 := (Ext.cell xw hfb0).trans x7
   replace x8 := (Ext.cell xw hfb0).trans x8
   have i0 : (k : Int) < (fps.length : Int) := by omega
   have xp := (Ext.refl wr).alloc (.cells #[.slice p.a p.l.length p.c,.int .i64 p.r,.bool p.f,.int .i64 p.M,.int .i64 p.S,.int .i64 p.m,.int .i64 p.s,.bool p.t,.int .i64 p.T] 40)
   have gP : PtInD wr.heap.size p (wr.alloc (.cells #[.slice p.a p.l.length p.c,.int .i64 p.r,.bool p.f,.int .i64 p.M,.int .i64 p.S,.int .i64 p.m,.int .i64 p.s,.bool p.t,.int .i64 p.T] 40)) := heap_last _ _
   obtain ⟨wp,hwp⟩ : ∃ x,wr.alloc (.cells #[.slice p.a p.l.length p.c,.int .i64 p.r,.bool p.f,.int .i64 p.M,.int .i64 p.S,.int .i64 p.m,.int .i64 p.s,.bool p.t,.int .i64 p.T] 40) = x := ⟨_,rfl⟩
   rw [hwp] at gP xp
   obtain ⟨P,hP⟩ : ∃ x,wr.heap.size = x := ⟨_,rfl⟩
   rw [hP] at gP
   have hPw : wr.heap.size ≤ P := by omega
   clear hPP
   go_wp2_with fail
   try rw [hwp]
   try rw [hP]
   clear hwp c0 c1 c2 c3 c4 x0 x1 x2 x3 x4 x5 x6 x7 x8 i0
   replace hP := Lib.hid hP
   go_loopw [9] (fun i ws => ∃ (m : Nat) (c : PtD),i = .int .i64 m ∧ m ≤ gps.length ∧ PtInD P c ws ∧ Hid (RepTo gps m p c ∧ c ∈ fps ++ gps) ∧ Ext wr ws) (fun i _ => gps.length - (intOf i).toNat)
   case atStart => exact ⟨0,p,rfl,Nat.zero_le _,gP,Lib.hid ⟨.inl ⟨rfl,fun y hy => by simp at hy⟩,List.mem_append_left _ hpm⟩,xp⟩
   case round =>
    rename World => ws
    clear gP xp
    obtain ⟨m,c,rfl,hm,gP,hC,xs⟩ := hrel
    have okc : c.Ok w := by
     rcases List.mem_append.1 hC.out.2 with h | h
     ·exact okf c h
     ·exact okg c h
    replace gA := gA.ext xs
    replace gB := gB.ext xs
    replace gR := gR.ext xs
    replace gX := gX.ext xs
    have xv := xw.trans xs
    obtain ⟨d0,d1,d2,d3,d4⟩ := gB.cells
    by_cases hmt : m < gps.length
    ·obtain ⟨gb,go,rfl,hgb0,hGG⟩ := hg.1 (by omega)
     have hym := List.getElem_mem hmt
     have hst := hC.out.1.step hmt
     obtain ⟨y0,y1,y2,y3,y4,y5,y6,y7,y8⟩ := hGG m hmt
     generalize gps[m] = y at *
     replace y0 := (Ext.cell xv hgb0).trans y0
     replace y1 := (Ext.cell xv hgb0).trans y1
     replace y2 := (Ext.cell xv hgb0).trans y2
     replace y3 := (Ext.cell xv hgb0).trans y3
     replace y4 := (Ext.cell xv hgb0).trans y4
     replace y5 := (Ext.cell xv hgb0).trans y5
     replace y6 := (Ext.cell xv hgb0).trans y6
     replace y7 := (Ext.cell xv hgb0).trans y7
     replace y8 := (Ext.cell xv hgb0).trans y8
     have hgb : gb < ws.heap.size := Nat.lt_of_lt_of_le hgb0 xv.size
     have CP := fun W (x : Ext ws W) => rcmpD_any c y W (okc.ext (xv.trans x)) ((okg y hym).ext (xv.trans x))
     obtain ⟨cz,hcz⟩ : ∃ cz,cmpK c.k y.k = cz := ⟨_,rfl⟩
     rw [hcz] at CP
     have V1 : Hid (cz = 0 → RepTo gps (m + 1) p y) := Lib.hid (fun h => hst.1 (by rw [← h]; exact hcz))
     have V2 : Hid (cz ≠ 0 → RepTo gps (m + 1) p c) := Lib.hid (fun h => hst.2 (by rw [← hcz] at h; exact h))
     unfold PtD.v ptV at CP
     have m1 : (m : Int) < (gps.length : Int) := by omega
     clear hGG hst hcz
     go_wp2_with fail
     refine wp_region_held_drew (S := Ext ws) (by kernel_rfl) ((Ext.refl ws).drew) (fun hH => ?_)
     refine tk 0 rfl (by kernel_rfl) (fun _ _ _ h => h) rfl (fun w9 hS9 => by obtain ⟨s0,s1,s2,s3,s4,s5,s6,s7,s8⟩ := PtIn.cells (gP.ext hS9); go_simp; (try rfl)) hH ?_
     try simp only [Act.put,aT,aZ,aS]
     refine tk 1 rfl (by kernel_rfl) (fun _ _ _ h => h) rfl (fun w9 hS9 => by obtain ⟨d0,d1,d2,d3,d4⟩ := (gB.ext hS9).cells; go_simp; (try rfl)) hH ?_
     try simp only [Act.put,aT,aZ,aS]
     refine tk 2 rfl (by kernel_rfl) (fun _ _ _ h => h) rfl (fun w9 hS9 => by obtain ⟨d0,d1,d2,d3,d4⟩ := (gB.ext hS9).cells; go_simp; (try rfl)) hH ?_
     try simp only [Act.put,aT,aZ,aS]
     refine tk 3 rfl (by kernel_rfl) (fun _ _ _ h => h) rfl (fun w9 hS9 => by obtain ⟨d0,d1,d2,d3,d4⟩ := (gB.ext hS9).cells; go_simp; (try rfl)) hH ?_
     try simp only [Act.put,aT,aZ,aS]
     refine tk 4 rfl (by kernel_rfl) (fun _ _ _ h => h) rfl (fun w9 hS9 => by obtain ⟨d0,d1,d2,d3,d4⟩ := (gB.ext hS9).cells; go_simp; (try rfl)) hH ?_
     try simp only [Act.put,aT,aZ,aS]
     refine tk 5 rfl (by kernel_rfl) (fun _ _ _ h => h) rfl (fun w9 hS9 => by replace y0 := (Ext.cell hS9 hgb).trans y0; replace y1 := (Ext.cell hS9 hgb).trans y1; replace y2 := (Ext.cell hS9 hgb).trans y2; replace y3 := (Ext.cell hS9 hgb).trans y3; replace y4 := (Ext.cell hS9 hgb).trans y4; replace y5 := (Ext.cell hS9 hgb).trans y5; replace y6 := (Ext.cell hS9 hgb).trans y6; replace y7 := (Ext.cell hS9 hgb).trans y7; replace y8 := (Ext.cell hS9 hgb).trans y8; go_simp; (try rfl)) hH ?_
     try simp only [Act.put,aT,aZ,aS]
     refine wR (rs := [6]) (by kernel_rfl) (by simp) (aR rfl (fun K hK => ?_) aN)
     rw [if_pos (by rfl)]
     go_simp
     go_at_call 34
     (with_reducible refine (CP _ hH).mono ?_)
     rintro e wz ⟨rfl,xz⟩
     refine hK.out _ _ (hH.trans xz) (fun hH => ?_)
     clear hK K
     try simp only [aT,aZ,aS]
     refine tk 7 rfl (by kernel_rfl) (fun _ _ _ h => h) rfl (fun w9 hS9 => by go_simp; (try rfl)) hH ?_
     try simp only [Act.put,aT,aZ,aS]
     refine wpAnyH_done (by kernel_rfl) ?_ _
     by_cases h0 : cz = 0
     ·have V3 := Lib.hid (V1.out h0)
      subst h0
      replace gP := PtIn.ext gP hH
      replace gB := gB.ext hH
      clear d0 d1 d2 d3 d4 V1 V2 CP
      obtain ⟨d0,d1,d2,d3,d4⟩ := gB.cells
      replace y0 := (Ext.cell hH hgb).trans y0
      replace y1 := (Ext.cell hH hgb).trans y1
      replace y2 := (Ext.cell hH hgb).trans y2
      replace y3 := (Ext.cell hH hgb).trans y3
      replace y4 := (Ext.cell hH hgb).trans y4
      replace y5 := (Ext.cell hH hgb).trans y5
      replace y6 := (Ext.cell hH hgb).trans y6
      replace y7 := (Ext.cell hH hgb).trans y7
      replace y8 := (Ext.cell hH hgb).trans y8
      have fr := fun o => PtIn.free gP o
      obtain ⟨s0,s1,s2,s3,s4,s5,s6,s7,s8⟩ := PtIn.cells gP
      have xq := xs.trans hH
      go_wp2_with fail
      go_roundw
      case rel => exact ⟨m + 1,y,rfl,hmt,PtIn.all gP (.slice y.a y.l.length y.c) y.r y.f y.M y.S y.m y.s y.t y.T,Lib.hid ⟨V3.out,List.mem_append_right _ hym⟩,(((((((((xq.setC P 0 _ hPw).setC P 1 _ hPw).setC P 2 _ hPw).setC P 3 _ hPw).setC P 4 _ hPw).setC P 5 _ hPw).setC P 6 _ hPw).setC P 7 _ hPw).setC P 8 _ hPw)⟩
      case measure => simp only [intOf]; omega
     ·have V3 := Lib.hid (V2.out h0)
      have h0b : (cz == 0) = false := beq_eq_false_iff_ne.2 h0
      clear V1 V2
      go_wp2_with fail
      go_roundw
      case rel => exact ⟨m + 1,c,rfl,hmt,PtIn.ext gP hH,Lib.hid ⟨V3.out,hC.out.2⟩,xs.trans hH⟩
      case measure => simp only [intOf]; omega
    ·have m1 : ¬ (m : Int) < (gps.length : Int) := by omega
     have hrp : RepOf gps fps[k] c := by
      have h1 := hC.out.1
      obtain rfl : m = gps.length := by omega
      rw [hp.out]
      exact h1.all
     have hQ2 : Hid ((O ++ [c]).length = k + 1 ∧ RepsU fps gps (O ++ [c])) := Lib.hid ⟨by rw [List.length_append,hQ.out.1]; rfl,hQ.out.2.push (by rw [hQ.out.1]; exact hlt) (by
      have h1 := hQ.out.1
      subst h1
      exact hrp) hC.out.2⟩
     obtain ⟨e0,e1,e2,e3,e4⟩ := gX.cells
     obtain ⟨s0,s1,s2,s3,s4,s5,s6,s7,s8⟩ := PtIn.cells gP
     have xa := (Ext.refl ws).alloc (.cells #[.slice c.a c.l.length c.c,.int .i64 c.r,.bool c.f,.int .i64 c.M,.int .i64 c.S,.int .i64 c.m,.int .i64 c.s,.bool c.t,.int .i64 c.T] 40)
     have hcell : PtInD ws.heap.size c (ws.alloc (.cells #[.slice c.a c.l.length c.c,.int .i64 c.r,.bool c.f,.int .i64 c.M,.int .i64 c.S,.int .i64 c.m,.int .i64 c.s,.bool c.t,.int .i64 c.T] 40)) := heap_last _ _
     obtain ⟨wz,hwz⟩ : ∃ x,ws.alloc (.cells #[.slice c.a c.l.length c.c,.int .i64 c.r,.bool c.f,.int .i64 c.M,.int .i64 c.S,.int .i64 c.m,.int .i64 c.s,.bool c.t,.int .i64 c.T] 40) = x := ⟨_,rfl⟩
     rw [hwz] at xa hcell
     have rs := PtsA.one hcell (okc.ext (xv.trans xa))
     have hO3 := hO.ext (xs.trans xa)
     have xc := xv.trans xa
     have hNc : N ≤ wz.heap.size := Nat.le_trans hNw (Nat.le_trans xs.size xa.size)
     replace gA := gA.ext xa
     replace gB := gB.ext xa
     replace gR := gR.ext xa
     replace gX := gX.ext xa
     have hc := one_src rs
     replace hwz := Lib.hid hwz
     clear hcell hrp hQ hC gP
     go_wp2_with (at_builtin; (try rw [hwz.out]); refine wpList_append_structs wz rfl _ _ rfl tyPt (fun _ => rfl) ptC_one (by decide) N _ O.length (fun i => O[i]?.getD PtD.zero) rfl hO3 ?c2 ⟨ws.heap.size,0,none⟩ 1 1 (fun _ => c) rfl hc ?c3 ?c4 (.inr (by decide)) ?_)
     case c3 => have := hOn.out; omega
     case c4 => have := hOn.out; omega
     intro v' w4 h1 h2 h3
     clear e0 e1 e2 e3 e4 s0 s1 s2 s3 s4 s5 s6 s7 s8 hc rs
     have h1' := OwnR.join1 (q := c) h1
     have hlt3 : ∀ g,(Value.slice av O.length cv).ownBlock = some g → N ≤ g := fun g hg => (hO3.lt g hg).1
     have x8 : Ext w w4 := grown_ext' xc h2 (Nat.le_refl _) (fun g hg => by have := hlt3 g hg; omega)
     have hN4 : N ≤ w4.heap.size := by have := h2.size; omega
     replace gA := gA.grown h2 (fun g hg => by have := hlt3 g hg; omega)
     replace gB := gB.grown h2 (fun g hg => by have := hlt3 g hg; omega)
     replace gR := gR.grown h2 (fun g hg => by have := hlt3 g hg; omega)
     replace gX := gX.grown h2 (fun g hg => by have := hlt3 g hg; omega)
     clear h1 h2 h3 hO3 hlt3
     obtain ⟨a5,c5,hv5⟩ := h1'.form
     subst hv5
     have hO4 := h1'.keep (w' := w4.setCell ⟨X,4,none⟩ (.slice a5 (O ++ [c]).length c5)) (fun g hg => setC_off (by have := (h1'.lt g hg).1; omega))
     have x9 := x8.setC X 4 (.slice a5 (O ++ [c]).length c5) (by omega)
     have hN5 : N ≤ (w4.setCell ⟨X,4,none⟩ (.slice a5 (O ++ [c]).length c5)).heap.size := by rw [World.size_setCell]; exact hN4
     have gA5 := gA.setC X 4 (.slice a5 (O ++ [c]).length c5) (by omega)
     have gB5 := gB.setC X 4 (.slice a5 (O ++ [c]).length c5) (by omega)
     have gR5 := gR.setC X 4 (.slice a5 (O ++ [c]).length c5) (by omega)
     have gX5 := gX.set4 (.slice a5 (O ++ [c]).length c5)
     have fr := fun o => gX.free o
     obtain ⟨e0,e1,e2,e3,e4⟩ := gX.cells
     clear h1' x8 hN4
     clear gX gA gB gR hO xw xv xs xa xc
     obtain ⟨O2,hO2⟩ : ∃ O2,O ++ [c] = O2 := ⟨_,rfl⟩
     rw [hO2] at hQ2 hO4 gX5 gA5 gB5 gR5 x9 hN5 ⊢
     clear hO2
     go_wp2_with fail
     go_roundw
     case rel => exact ⟨k + 1,O2,_,rfl,hlt,hO4,gX5,gA5,gB5,gR5,hQ2,x9,hN5⟩
     case measure => simp only [intOf]; omega
  ·have i0 : ¬ (k : Int) < (fps.length : Int) := by omega
   have hreps : Hid (Reps fps gps O ∧ (∀ c ∈ O,c ∈ fps ++ gps) ∧ O.length = fps.length) := Lib.hid ⟨⟨by have := hQ.out.1; omega,hQ.out.2.rep⟩,hQ.out.2.mem,by have := hQ.out.1; omega⟩
   clear hQ
   go_wp2_with fail
   clear c0 c1 c2 c3 c4 i0 hlt hk
   go_loopw [10] (fun i wx => ∃ (k : Nat) (L : List PtD) (v : Value),i = .int .i64 k ∧ k ≤ gps.length ∧ OwnR 9 40 PtD.cs N v L.length (fun i => L[i]?.getD PtD.zero) wx ∧ FamIn X fn fk un he v wx ∧ FamIn B fn fk fu fh (.slice fpa fps.length fpc) wx ∧ FamIn (B + 1) gn gk gu gh (.slice gpa gps.length gpc) wx ∧ FamIn (B + 1 + 1) ⟨#[]⟩ 0 ⟨#[]⟩ ⟨#[]⟩ (.slice none 0 0) wx ∧ Hid (L = O ++ (gps.take k).filter (fun y => !(inFs fps y))) ∧ Ext w wx ∧ N ≤ wx.heap.size) (fun i _ => gps.length - (intOf i).toNat)
   case atStart => exact ⟨0,O,_,rfl,Nat.zero_le _,hO,gX,gA,gB,gR,Lib.hid (by simp),xw,hNw⟩
   case round =>
    rename World => wv
    clear gX gA gB gR xw hNw hO
    obtain ⟨k,L,v,rfl,hk,hO,gX,gA,gB,gR,hQ,xw,hNw⟩ := hrel
    obtain ⟨av,cv,hv⟩ := hO.form
    subst hv
    obtain ⟨d0,d1,d2,d3,d4⟩ := gB.cells
    have hLn : Hid (L.length ≤ 1000) := Lib.hid (by
     rw [hQ.out,List.length_append,hreps.out.2.2]
     have h1 := List.length_filter_le (fun y => !(inFs fps y)) (gps.take k)
     rw [List.length_take] at h1
     omega)
    by_cases hlt : k < gps.length
    ·obtain ⟨gb,go,rfl,hgb0,hGG⟩ := hg.1 (by omega)
     have hym := List.getElem_mem hlt
     have hraw := hGG k hlt
     have hQ2 : Hid (O ++ (gps.take (k + 1)).filter (fun y => !(inFs fps y)) = L ++ (if inFs fps gps[k] = true then [] else [gps[k]])) := Lib.hid (by
      rw [hQ.out,List.take_add_one,List.getElem?_eq_getElem hlt,Option.toList_some,List.filter_append,List.append_assoc]
      cases e : inFs fps gps[k] <;> simp [e])
     generalize gps[k] = y at *
     have oky := okg y hym
     have i0 : (k : Int) < (gps.length : Int) := by omega
     clear hGG
     go_wp2_with fail
     clear d0 d1 d2 d3 d4 i0
     go_loopw [11,12] (fun b i ws => ∃ m : Nat,i = .int .i64 m ∧ m ≤ fps.length ∧ b = .bool (inFs (fps.take m) y) ∧ Ext wv ws) (fun _ i _ => fps.length - (intOf i).toNat)
     case atStart => exact ⟨0,rfl,Nat.zero_le _,rfl,Ext.refl _⟩
     case round =>
      rename World => ws
      obtain ⟨m,rfl,hm,rfl,xs⟩ := hrel
      replace gA := gA.ext xs
      replace gB := gB.ext xs
      replace gR := gR.ext xs
      replace gX := gX.ext xs
      replace hO := hO.ext xs
      replace xw := xw.trans xs
      have hNo := Nat.le_trans hNw xs.size
      obtain ⟨bi,hbi⟩ : ∃ b,inFs (fps.take m) y = b := ⟨_,rfl⟩
      rw [hbi]
      obtain ⟨c0,c1,c2,c3,c4⟩ := gA.cells
      by_cases hmt : m < fps.length
      ·obtain ⟨fb,fo,rfl,hfb0,hPP⟩ := hf.1 (by omega)
       have hxm := List.getElem_mem hmt
       obtain ⟨x0,x1,x2,x3,x4,x5,x6,x7,x8⟩ := hPP m hmt
       have hin : Hid (inFs (fps.take (m + 1)) y = (bi || (cmpK fps[m].k y.k == 0))) := Lib.hid (by
        rw [← hbi]
        unfold inFs
        rw [List.take_add_one,List.getElem?_eq_getElem hmt,Option.toList_some,List.any_append]
        simp [fD])
       generalize fps[m] = x at *
       obtain ⟨y0,y1,y2,y3,y4,y5,y6,y7,y8⟩ := hraw
       replace x0 := (Ext.cell xw hfb0).trans x0
       replace x1 := (Ext.cell xw hfb0).trans x1
       replace x2 := (Ext.cell xw hfb0).trans x2
       replace x3 := (Ext.cell xw hfb0).trans x3
       replace x4 := (Ext.cell xw hfb0).trans x4
       replace x5 := (Ext.cell xw hfb0).trans x5
       replace x6 := (Ext.cell xw hfb0).trans x6
       replace x7 := (Ext.cell xw hfb0).trans x7
       replace x8 := (Ext.cell xw hfb0).trans x8
       replace y0 := (Ext.cell xw hgb0).trans y0
       replace y1 := (Ext.cell xw hgb0).trans y1
       replace y2 := (Ext.cell xw hgb0).trans y2
       replace y3 := (Ext.cell xw hgb0).trans y3
       replace y4 := (Ext.cell xw hgb0).trans y4
       replace y5 := (Ext.cell xw hgb0).trans y5
       replace y6 := (Ext.cell xw hgb0).trans y6
       replace y7 := (Ext.cell xw hgb0).trans y7
       replace y8 := (Ext.cell xw hgb0).trans y8
       have hfb : fb < ws.heap.size := Nat.lt_of_lt_of_le hfb0 xw.size
       have hgb : gb < ws.heap.size := Nat.lt_of_lt_of_le hgb0 xw.size
       have CP := fun W (z : Ext ws W) => rcmpD_any x y W ((okf x hxm).ext (xw.trans z)) (oky.ext (xw.trans z))
       obtain ⟨cz,hcz⟩ : ∃ cz,cmpK x.k y.k = cz := ⟨_,rfl⟩
       rw [hcz] at CP hin
       unfold PtD.v ptV at CP
       have m1 : (m : Int) < (fps.length : Int) := by omega
       clear hPP hcz hbi
       cases bi
       ·go_wp2_with fail
        refine wp_region_held_drew (S := Ext ws) (by kernel_rfl) ((Ext.refl ws).drew) (fun hH => ?_)
        refine tk 0 rfl (by kernel_rfl) (fun _ _ _ h => h) rfl (fun w9 hS9 => by go_simp; (try rfl)) hH ?_
        try simp only [Act.put,aT,aZ,aS]
        refine tk 1 rfl (by kernel_rfl) (fun _ _ _ h => h) rfl (fun w9 hS9 => by go_simp; (try rfl)) hH ?_
        try simp only [Act.put,aT,aZ,aS]
        refine tk 2 rfl (by kernel_rfl) (fun _ _ _ h => h) rfl (fun w9 hS9 => by obtain ⟨c0,c1,c2,c3,c4⟩ := (gA.ext hS9).cells; go_simp; (try rfl)) hH ?_
        try simp only [Act.put,aT,aZ,aS]
        refine tk 3 rfl (by kernel_rfl) (fun _ _ _ h => h) rfl (fun w9 hS9 => by obtain ⟨c0,c1,c2,c3,c4⟩ := (gA.ext hS9).cells; go_simp; (try rfl)) hH ?_
        try simp only [Act.put,aT,aZ,aS]
        refine tk 4 rfl (by kernel_rfl) (fun _ _ _ h => h) rfl (fun w9 hS9 => by obtain ⟨c0,c1,c2,c3,c4⟩ := (gA.ext hS9).cells; go_simp; (try rfl)) hH ?_
        try simp only [Act.put,aT,aZ,aS]
        refine tk 5 rfl (by kernel_rfl) (fun _ _ _ h => h) rfl (fun w9 hS9 => by obtain ⟨c0,c1,c2,c3,c4⟩ := (gA.ext hS9).cells; go_simp; (try rfl)) hH ?_
        try simp only [Act.put,aT,aZ,aS]
        refine tk 6 rfl (by kernel_rfl) (fun _ _ _ h => h) rfl (fun w9 hS9 => by replace x0 := (Ext.cell hS9 hfb).trans x0; replace x1 := (Ext.cell hS9 hfb).trans x1; replace x2 := (Ext.cell hS9 hfb).trans x2; replace x3 := (Ext.cell hS9 hfb).trans x3; replace x4 := (Ext.cell hS9 hfb).trans x4; replace x5 := (Ext.cell hS9 hfb).trans x5; replace x6 := (Ext.cell hS9 hfb).trans x6; replace x7 := (Ext.cell hS9 hfb).trans x7; replace x8 := (Ext.cell hS9 hfb).trans x8; go_simp; (try rfl)) hH ?_
        try simp only [Act.put,aT,aZ,aS]
        refine tk 7 rfl (by kernel_rfl) (fun _ _ _ h => h) rfl (fun w9 hS9 => by obtain ⟨d0,d1,d2,d3,d4⟩ := (gB.ext hS9).cells; go_simp; (try rfl)) hH ?_
        try simp only [Act.put,aT,aZ,aS]
        refine tk 8 rfl (by kernel_rfl) (fun _ _ _ h => h) rfl (fun w9 hS9 => by obtain ⟨d0,d1,d2,d3,d4⟩ := (gB.ext hS9).cells; go_simp; (try rfl)) hH ?_
        try simp only [Act.put,aT,aZ,aS]
        refine tk 9 rfl (by kernel_rfl) (fun _ _ _ h => h) rfl (fun w9 hS9 => by obtain ⟨d0,d1,d2,d3,d4⟩ := (gB.ext hS9).cells; go_simp; (try rfl)) hH ?_
        try simp only [Act.put,aT,aZ,aS]
        refine tk 10 rfl (by kernel_rfl) (fun _ _ _ h => h) rfl (fun w9 hS9 => by obtain ⟨d0,d1,d2,d3,d4⟩ := (gB.ext hS9).cells; go_simp; (try rfl)) hH ?_
        try simp only [Act.put,aT,aZ,aS]
        refine tk 11 rfl (by kernel_rfl) (fun _ _ _ h => h) rfl (fun w9 hS9 => by replace y0 := (Ext.cell hS9 hgb).trans y0; replace y1 := (Ext.cell hS9 hgb).trans y1; replace y2 := (Ext.cell hS9 hgb).trans y2; replace y3 := (Ext.cell hS9 hgb).trans y3; replace y4 := (Ext.cell hS9 hgb).trans y4; replace y5 := (Ext.cell hS9 hgb).trans y5; replace y6 := (Ext.cell hS9 hgb).trans y6; replace y7 := (Ext.cell hS9 hgb).trans y7; replace y8 := (Ext.cell hS9 hgb).trans y8; go_simp; (try rfl)) hH ?_
        try simp only [Act.put,aT,aZ,aS]
        refine wR (rs := [12]) (by kernel_rfl) (by simp) (aR rfl (fun K hK => ?_) aN)
        rw [if_pos (by rfl)]
        go_simp
        go_at_call 34
        (with_reducible refine (CP _ hH).mono ?_)
        rintro e wz ⟨rfl,xz⟩
        refine hK.out _ _ (hH.trans xz) (fun hH => ?_)
        clear hK K
        try simp only [aT,aZ,aS]
        refine tk 13 rfl (by kernel_rfl) (fun _ _ _ h => h) rfl (fun w9 hS9 => by go_simp; (try rfl)) hH ?_
        try simp only [Act.put,aT,aZ,aS]
        refine tk 14 rfl (by kernel_rfl) (fun _ _ _ h => h) rfl (fun w9 hS9 => by go_simp; (try rfl)) hH ?_
        try simp only [Act.put,aT,aZ,aS]
        refine tk 15 rfl (by kernel_rfl) (fun _ _ _ h => h) rfl (fun w9 hS9 => by go_simp; (try rfl)) hH ?_
        try simp only [Act.put,aT,aZ,aS]
        refine wpAnyH_done (by kernel_rfl) ?_ _
        go_wp2_with fail
        go_roundw
        case rel => exact ⟨m + 1,rfl,hmt,by rw [hin.out,Bool.false_or],xs.trans hH⟩
        case measure => simp only [intOf]; omega
       ·go_wp2_with fail
        refine wp_region_held_drew (S := Ext ws) (by kernel_rfl) ((Ext.refl ws).drew) (fun hH => ?_)
        refine tk 0 rfl (by kernel_rfl) (fun _ _ _ h => h) rfl (fun w9 hS9 => by go_simp; (try rfl)) hH ?_
        try simp only [Act.put,aT,aZ,aS]
        refine tk 1 rfl (by kernel_rfl) (fun _ _ _ h => h) rfl (fun w9 hS9 => by go_simp; (try rfl)) hH ?_
        try simp only [Act.put,aT,aZ,aS]
        refine tk0 2 rfl (by kernel_rfl) (fun _ _ _ h => h) rfl hH ?_
        try simp only [Act.put,aT,aZ,aS]
        refine tk0 3 rfl (by kernel_rfl) (fun _ _ _ h => h) rfl hH ?_
        try simp only [Act.put,aT,aZ,aS]
        refine tk0 4 rfl (by kernel_rfl) (fun _ _ _ h => h) rfl hH ?_
        try simp only [Act.put,aT,aZ,aS]
        refine tk0 5 rfl (by kernel_rfl) (fun _ _ _ h => h) rfl hH ?_
        try simp only [Act.put,aT,aZ,aS]
        refine tk0 6 rfl (by kernel_rfl) (fun _ _ _ h => h) rfl hH ?_
        try simp only [Act.put,aT,aZ,aS]
        refine tk0 7 rfl (by kernel_rfl) (fun _ _ _ h => h) rfl hH ?_
        try simp only [Act.put,aT,aZ,aS]
        refine tk0 8 rfl (by kernel_rfl) (fun _ _ _ h => h) rfl hH ?_
        try simp only [Act.put,aT,aZ,aS]
        refine tk0 9 rfl (by kernel_rfl) (fun _ _ _ h => h) rfl hH ?_
        try simp only [Act.put,aT,aZ,aS]
        refine tk0 10 rfl (by kernel_rfl) (fun _ _ _ h => h) rfl hH ?_
        try simp only [Act.put,aT,aZ,aS]
        refine tk0 11 rfl (by kernel_rfl) (fun _ _ _ h => h) rfl hH ?_
        try simp only [Act.put,aT,aZ,aS]
        refine tk0 12 rfl (by kernel_rfl) (fun _ _ _ h => h) rfl hH ?_
        try simp only [Act.put,aT,aZ,aS]
        refine tk0 13 rfl (by kernel_rfl) (fun _ _ _ h => h) rfl hH ?_
        try simp only [Act.put,aT,aZ,aS]
        refine tk 14 rfl (by kernel_rfl) (fun _ _ _ h => h) rfl (fun w9 hS9 => by go_simp; (try rfl)) hH ?_
        try simp only [Act.put,aT,aZ,aS]
        refine tk 15 rfl (by kernel_rfl) (fun _ _ _ h => h) rfl (fun w9 hS9 => by go_simp; (try rfl)) hH ?_
        try simp only [Act.put,aT,aZ,aS]
        refine wpAnyH_done (by kernel_rfl) ?_ _
        go_wp2_with fail
        go_roundw
        case rel => exact ⟨m + 1,rfl,hmt,by rw [hin.out,Bool.true_or],xs.trans hH⟩
        case measure => simp only [intOf]; omega
      ·have m1 : ¬ (m : Int) < (fps.length : Int) := by omega
       rw [List.take_of_length_le (by omega)] at hbi
       rw [hbi] at hQ2
       replace hbi := Lib.hid hbi
       cases bi
       rotate_left
       ·have hQ3 : Hid (L = O ++ (gps.take (k + 1)).filter (fun y => !(inFs fps y))) := Lib.hid (by rw [hQ2.out]; simp)
        clear hQ2 hQ hraw
        go_wp2_with fail
        go_roundw
        case rel => exact ⟨k + 1,L,_,rfl,hlt,hO,gX,gA,gB,gR,hQ3,xw,hNo⟩
        case measure => simp only [intOf]; omega
       ·rename World => wo
        have hQ3 : Hid (L ++ [y] = O ++ (gps.take (k + 1)).filter (fun y => !(inFs fps y))) := Lib.hid (by rw [hQ2.out]; simp)
        obtain ⟨y0,y1,y2,y3,y4,y5,y6,y7,y8⟩ := hraw
        clear hQ2 hQ
        go_wp2_with fail
        clear c0 c1 c2 c3 c4
        refine wp_region_held_drew (S := fun W9 => Ext w W9 ∧ FamIn (B + 1) gn gk gu gh (.slice (some ⟨gb,go,none⟩) gps.length gpc) W9) (by kernel_rfl) ⟨xw.drew,gB.ext ((Ext.refl _).drew)⟩ (fun hH => ?_)
        refine tk 0 rfl (by kernel_rfl) (fun _ _ _ h => h) rfl (fun w9 hS9 => by go_simp; (try rfl)) hH ?_
        try simp only [Act.put,aT,aZ,aS]
        refine tk 2 rfl (by kernel_rfl) (fun _ _ _ h => h) rfl (fun w9 hS9 => by obtain ⟨d0,d1,d2,d3,d4⟩ := hS9.2.cells; go_simp; (try rfl)) hH ?_
        try simp only [Act.put,aT,aZ,aS]
        refine tk 3 rfl (by kernel_rfl) (fun _ _ _ h => h) rfl (fun w9 hS9 => by obtain ⟨d0,d1,d2,d3,d4⟩ := hS9.2.cells; go_simp; (try rfl)) hH ?_
        try simp only [Act.put,aT,aZ,aS]
        refine tk 4 rfl (by kernel_rfl) (fun _ _ _ h => h) rfl (fun w9 hS9 => by obtain ⟨d0,d1,d2,d3,d4⟩ := hS9.2.cells; go_simp; (try rfl)) hH ?_
        try simp only [Act.put,aT,aZ,aS]
        refine tk 5 rfl (by kernel_rfl) (fun _ _ _ h => h) rfl (fun w9 hS9 => by obtain ⟨d0,d1,d2,d3,d4⟩ := hS9.2.cells; go_simp; (try rfl)) hH ?_
        try simp only [Act.put,aT,aZ,aS]
        refine tk 6 rfl (by kernel_rfl) (fun _ _ _ h => h) rfl (fun w9 hS9 => by replace y0 := (Ext.cell hS9.1 hgb0).trans y0; replace y1 := (Ext.cell hS9.1 hgb0).trans y1; replace y2 := (Ext.cell hS9.1 hgb0).trans y2; replace y3 := (Ext.cell hS9.1 hgb0).trans y3; replace y4 := (Ext.cell hS9.1 hgb0).trans y4; replace y5 := (Ext.cell hS9.1 hgb0).trans y5; replace y6 := (Ext.cell hS9.1 hgb0).trans y6; replace y7 := (Ext.cell hS9.1 hgb0).trans y7; replace y8 := (Ext.cell hS9.1 hgb0).trans y8; go_simp; (try rfl)) hH ?_
        try simp only [Act.put,aT,aZ,aS]
        obtain ⟨w0,hw0⟩ : ∃ x,wo.drew = x := ⟨_,rfl⟩
        have xc : Ext wo w0 := by rw [← hw0]; exact (Ext.refl _).drew
        rw [hw0] at hH ⊢
        clear hw0
        refine wR (rs := [1,7]) (by kernel_rfl) (by simp) (aR rfl (fun K hK => ?km2047x1) (aR rfl (fun K hK => ?km2047x7) aN))
        case km2047x1 =>
         rw [if_pos (by rfl)]
         obtain ⟨e0,e1,e2,e3,e4⟩ := (gX.ext xc).cells
         go_simp
         refine hK.out _ _ hH (fun hH => ?_)
         clear hK K e0 e1 e2 e3 e4
         try simp only [aT,aZ,aS]
         refine wR (rs := [7]) (by kernel_rfl) (by simp) (aR rfl (fun K hK => ?km2042x7) aN)
         case km2042x7 =>
          rw [if_pos (by rfl)]
          go_simp
          refine hK.out _ _ ⟨hH.1.alloc _,hH.2.ext ((Ext.refl _).alloc _)⟩ (fun hH => ?_)
          clear hK K
          try simp only [aT,aZ,aS]
          obtain ⟨wS,hwS⟩ : ∃ x,w0.alloc (.cells #[.slice y.a y.l.length y.c,.int .i64 y.r,.bool y.f,.int .i64 y.M,.int .i64 y.S,.int .i64 y.m,.int .i64 y.s,.bool y.t,.int .i64 y.T] 40) = x := ⟨_,rfl⟩
          have xs : Ext w0 wS := by rw [← hwS]; exact (Ext.refl _).alloc _
          rw [hwS] at hH ⊢
          have rs : PtsA (some ⟨w0.heap.size,0,none⟩) [y] wS := by rw [← hwS]; exact PtsA.one (heap_last _ _) (by rw [hwS]; exact oky.ext hH.1)
          clear hwS
          replace xc := xc.trans xs
          refine wR (rs := [8]) (by kernel_rfl) (by simp) (aR rfl (fun K hK => ?km2041x8) aN)
          case km2041x8 =>
           rw [if_pos (by rfl)]
           have hO3 := hO.ext xc
           obtain ⟨v',w4,ea,h1,h2,h3⟩ := append_structs tyPt (fun _ => rfl) ptC_one (by decide) wS 33 N _ L.length (fun i => L[i]?.getD PtD.zero) hO3 (Nat.le_trans hNo xc.size) ⟨w0.heap.size,0,none⟩ 1 1 (fun _ => y) (one_src rs) (by have := hLn.out; omega) (by have := hLn.out; omega) (.inr (by decide))
           have xc9 := xw.trans xc
           refine Lib.wp_append_run _ _ _ _ _ rfl _ _ rfl rfl v' w4 ea (hK.out _ _ ⟨grown_ext' xc9 h2 (Nat.le_refl _) (fun g hg => by have := (hO3.lt g hg).1; omega),hH.2.grown h2 (fun g hg => by have := (hO3.lt g hg).1; omega)⟩ (fun hH => ?_))
           clear hK K ea
           try simp only [aT,aZ,aS]
           replace gA := gA.ext xc
           replace gB := gB.ext xc
           replace gR := gR.ext xc
           replace gX := gX.ext xc
           have hNc := Nat.le_trans hNo xc.size
           clear xc
           have xc := xc9
           have h1' := OwnR.join1 (q := y) h1
           have hlt3 : ∀ g,(Value.slice av L.length cv).ownBlock = some g → N ≤ g := fun g hg => (hO3.lt g hg).1
           have x8 : Ext w w4 := grown_ext' xc h2 (Nat.le_refl _) (fun g hg => by have := hlt3 g hg; omega)
           have hN4 : N ≤ w4.heap.size := by have := h2.size; omega
           replace gA := gA.grown h2 (fun g hg => by have := hlt3 g hg; omega)
           replace gB := gB.grown h2 (fun g hg => by have := hlt3 g hg; omega)
           replace gR := gR.grown h2 (fun g hg => by have := hlt3 g hg; omega)
           replace gX := gX.grown h2 (fun g hg => by have := hlt3 g hg; omega)
           clear h1 h2 h3 hO3 hlt3
           obtain ⟨a5,c5,hv5⟩ := h1'.form
           subst hv5
           have hO4 := h1'.keep (w' := w4.setCell ⟨X,4,none⟩ (.slice a5 (L ++ [y]).length c5)) (fun g hg => setC_off (by have := (h1'.lt g hg).1; omega))
           have x9 := x8.setC X 4 (.slice a5 (L ++ [y]).length c5) (by omega)
           have hN5 : N ≤ (w4.setCell ⟨X,4,none⟩ (.slice a5 (L ++ [y]).length c5)).heap.size := by rw [World.size_setCell]; exact hN4
           have gA5 := gA.setC X 4 (.slice a5 (L ++ [y]).length c5) (by omega)
           have gB5 := gB.setC X 4 (.slice a5 (L ++ [y]).length c5) (by omega)
           have gR5 := gR.setC X 4 (.slice a5 (L ++ [y]).length c5) (by omega)
           have gX5 := gX.set4 (.slice a5 (L ++ [y]).length c5)
           have fr := fun o => gX.free o
           obtain ⟨e0,e1,e2,e3,e4⟩ := gX.cells
           clear h1' x8 hN4
           obtain ⟨L2,hL2⟩ : ∃ L2,L ++ [y] = L2 := ⟨_,rfl⟩
           rw [hL2] at hQ3 hO4 gX5 gA5 gB5 gR5 x9 hN5 ⊢
           clear hL2
           refine tk 9 rfl (by kernel_rfl) (fun _ _ _ h => h) rfl (fun w9 hS9 => by go_simp; (try rfl)) hH ?_
           try simp only [Act.put,aT,aZ,aS]
           refine wR (rs := [10]) (by kernel_rfl) (by simp) (aR rfl (fun K hK => ?km2040x10) aN)
           case km2040x10 =>
            rw [if_pos (by rfl)]
            go_simp
            refine hK.out _ _ ⟨x9,gB5⟩ (fun hH => ?_)
            clear hK K fr e0 e1 e2 e3 e4
            try simp only [aT,aZ,aS]
            refine wpAnyH_done (by kernel_rfl) ?_ _
            go_wp2_with fail
            go_roundw
            case rel => exact ⟨k + 1,_,_,rfl,hlt,hO4,gX5,gA5,gB5,gR5,hQ3,x9,hN5⟩
            case measure => simp only [intOf]; omega
        case km2047x7 =>
         rw [if_pos (by rfl)]
         go_simp
         refine hK.out _ _ ⟨hH.1.alloc _,hH.2.ext ((Ext.refl _).alloc _)⟩ (fun hH => ?_)
         clear hK K
         try simp only [aT,aZ,aS]
         obtain ⟨wS,hwS⟩ : ∃ x,w0.alloc (.cells #[.slice y.a y.l.length y.c,.int .i64 y.r,.bool y.f,.int .i64 y.M,.int .i64 y.S,.int .i64 y.m,.int .i64 y.s,.bool y.t,.int .i64 y.T] 40) = x := ⟨_,rfl⟩
         have xs : Ext w0 wS := by rw [← hwS]; exact (Ext.refl _).alloc _
         rw [hwS] at hH ⊢
         have rs : PtsA (some ⟨w0.heap.size,0,none⟩) [y] wS := by rw [← hwS]; exact PtsA.one (heap_last _ _) (by rw [hwS]; exact oky.ext hH.1)
         clear hwS
         replace xc := xc.trans xs
         refine wR (rs := [1]) (by kernel_rfl) (by simp) (aR rfl (fun K hK => ?km2046x1) aN)
         case km2046x1 =>
          rw [if_pos (by rfl)]
          obtain ⟨e0,e1,e2,e3,e4⟩ := (gX.ext xc).cells
          go_simp
          refine hK.out _ _ hH (fun hH => ?_)
          clear hK K e0 e1 e2 e3 e4
          try simp only [aT,aZ,aS]
          refine wR (rs := [8]) (by kernel_rfl) (by simp) (aR rfl (fun K hK => ?km2045x8) aN)
          case km2045x8 =>
           rw [if_pos (by rfl)]
           have hO3 := hO.ext xc
           obtain ⟨v',w4,ea,h1,h2,h3⟩ := append_structs tyPt (fun _ => rfl) ptC_one (by decide) wS 33 N _ L.length (fun i => L[i]?.getD PtD.zero) hO3 (Nat.le_trans hNo xc.size) ⟨w0.heap.size,0,none⟩ 1 1 (fun _ => y) (one_src rs) (by have := hLn.out; omega) (by have := hLn.out; omega) (.inr (by decide))
           have xc9 := xw.trans xc
           refine Lib.wp_append_run _ _ _ _ _ rfl _ _ rfl rfl v' w4 ea (hK.out _ _ ⟨grown_ext' xc9 h2 (Nat.le_refl _) (fun g hg => by have := (hO3.lt g hg).1; omega),hH.2.grown h2 (fun g hg => by have := (hO3.lt g hg).1; omega)⟩ (fun hH => ?_))
           clear hK K ea
           try simp only [aT,aZ,aS]
           replace gA := gA.ext xc
           replace gB := gB.ext xc
           replace gR := gR.ext xc
           replace gX := gX.ext xc
           have hNc := Nat.le_trans hNo xc.size
           clear xc
           have xc := xc9
           have h1' := OwnR.join1 (q := y) h1
           have hlt3 : ∀ g,(Value.slice av L.length cv).ownBlock = some g → N ≤ g := fun g hg => (hO3.lt g hg).1
           have x8 : Ext w w4 := grown_ext' xc h2 (Nat.le_refl _) (fun g hg => by have := hlt3 g hg; omega)
           have hN4 : N ≤ w4.heap.size := by have := h2.size; omega
           replace gA := gA.grown h2 (fun g hg => by have := hlt3 g hg; omega)
           replace gB := gB.grown h2 (fun g hg => by have := hlt3 g hg; omega)
           replace gR := gR.grown h2 (fun g hg => by have := hlt3 g hg; omega)
           replace gX := gX.grown h2 (fun g hg => by have := hlt3 g hg; omega)
           clear h1 h2 h3 hO3 hlt3
           obtain ⟨a5,c5,hv5⟩ := h1'.form
           subst hv5
           have hO4 := h1'.keep (w' := w4.setCell ⟨X,4,none⟩ (.slice a5 (L ++ [y]).length c5)) (fun g hg => setC_off (by have := (h1'.lt g hg).1; omega))
           have x9 := x8.setC X 4 (.slice a5 (L ++ [y]).length c5) (by omega)
           have hN5 : N ≤ (w4.setCell ⟨X,4,none⟩ (.slice a5 (L ++ [y]).length c5)).heap.size := by rw [World.size_setCell]; exact hN4
           have gA5 := gA.setC X 4 (.slice a5 (L ++ [y]).length c5) (by omega)
           have gB5 := gB.setC X 4 (.slice a5 (L ++ [y]).length c5) (by omega)
           have gR5 := gR.setC X 4 (.slice a5 (L ++ [y]).length c5) (by omega)
           have gX5 := gX.set4 (.slice a5 (L ++ [y]).length c5)
           have fr := fun o => gX.free o
           obtain ⟨e0,e1,e2,e3,e4⟩ := gX.cells
           clear h1' x8 hN4
           obtain ⟨L2,hL2⟩ : ∃ L2,L ++ [y] = L2 := ⟨_,rfl⟩
           rw [hL2] at hQ3 hO4 gX5 gA5 gB5 gR5 x9 hN5 ⊢
           clear hL2
           refine tk 9 rfl (by kernel_rfl) (fun _ _ _ h => h) rfl (fun w9 hS9 => by go_simp; (try rfl)) hH ?_
           try simp only [Act.put,aT,aZ,aS]
           refine wR (rs := [10]) (by kernel_rfl) (by simp) (aR rfl (fun K hK => ?km2044x10) aN)
           case km2044x10 =>
            rw [if_pos (by rfl)]
            go_simp
            refine hK.out _ _ ⟨x9,gB5⟩ (fun hH => ?_)
            clear hK K fr e0 e1 e2 e3 e4
            try simp only [aT,aZ,aS]
            refine wpAnyH_done (by kernel_rfl) ?_ _
            go_wp2_with fail
            go_roundw
            case rel => exact ⟨k + 1,_,_,rfl,hlt,hO4,gX5,gA5,gB5,gR5,hQ3,x9,hN5⟩
            case measure => simp only [intOf]; omega
    ·have i0 : ¬ (k : Int) < (gps.length : Int) := by omega
     have hL : Hid (L = O ++ gps.filter (fun y => !(inFs fps y))) := Lib.hid (by rw [hQ.out,List.take_of_length_le (by omega)])
     have hmem : ∀ p ∈ L,p ∈ fps ++ gps := fun p hp => by
      rw [hL.out] at hp
      rcases List.mem_append.1 hp with hp | hp
      ·exact hreps.out.2.1 p hp
      ·exact List.mem_append_right _ (List.mem_filter.1 hp).1
     have hokL : ∀ p ∈ L,p.Ok wv := fun p hp => by
      rcases List.mem_append.1 (hmem p hp) with h | h
      ·exact (okf p h).ext xw
      ·exact (okg p h).ext xw
     have hun2 : un.size ≤ 1000 := by
      rw [← hun.out]
      split
      ·exact sfu.2.1
      ·exact sfu.2.2.2.1
     have hhe2 : he.size ≤ 1000 := by
      rw [← hhe.out]
      split
      ·exact sfu.2.2.1
      ·exact sfu.2.2.2.2
     have sm : (FamD.y ⟨fn,fk,un,he,av,cv,L⟩).Sm := ⟨sfu.1,hun2,hhe2,by show (L.map PtD.y).length ≤ 1000; rw [List.length_map]; exact hLn.out,fun q hq => by
      obtain ⟨p,hp,rfl⟩ := List.mem_map.1 hq
      exact lab.out p (hmem p hp)⟩
     have CS := rSortFam_any ⟨fn,fk,un,he,av,cv,L⟩ wv (hO.rowP.pts hokL) sm
     have HR : Hid (srt (FamD.y ⟨fn,fk,un,he,av,cv,L⟩) = R) := Lib.hid (by
      have h1 := HG.out O un he hreps.out.1 hun.out.symm hhe.out.symm
      rw [← hL.out] at h1
      exact h1)
     rw [HR.out] at CS
     dsimp only at CS
     have hBw : B + 1 + 1 < wv.heap.size := gR.lt
     obtain ⟨e0,e1,e2,e3,e4⟩ := gX.cells
     replace hmem := Lib.hid hmem
     clear sm hokL hL HG HR hreps hQ hO
     go_wp2_with fail
     (with_reducible refine CS.mono ?_)
     rintro e w9 ⟨⟨q,ok,rfl,hRq,hMq,k1,k2⟩,x9⟩
     replace gR := gR.ext x9
     clear CS d0 d1 d2 d3 d4 e0 e1 e2 e3 e4
     obtain ⟨e0,e1,e2,e3,e4⟩ := gR.cells
     have fr := fun o => gR.free o
     have xz := xw.trans x9
     have hRF := (((((hRq.setC (B + 1 + 1) 0 (.string q.nm) hBw).setC (B + 1 + 1) 1 (.int .i64 q.k) hBw).setC (B + 1 + 1) 2 (.string q.un) hBw).setC (B + 1 + 1) 3 (.string q.he) hBw).setC (B + 1 + 1) 4 (.slice q.pa q.ps.length q.pc) hBw).mono (base' := w.heap.size) xw.size
     replace hRF := Lib.hid hRF
     replace k1 := Lib.hid k1
     replace k2 := Lib.hid k2
     go_wp2_with fail
     refine bodyPost_ret (v := .tuple #[.agg #[.string q.nm,.int .i64 q.k,.string q.un,.string q.he,.slice q.pa q.ps.length q.pc],.bool ok]) ?_ rfl ⟨⟨q,ok,rfl,hRF.out,fun p hp => hmem.out p (hMq p hp),k1.out,k2.out⟩,(((((xz.setC (B + 1 + 1) 0 _ hz2).setC (B + 1 + 1) 1 _ hz2).setC (B + 1 + 1) 2 _ hz2).setC (B + 1 + 1) 3 _ hz2).setC (B + 1 + 1) 4 _ hz2)⟩
     simp [results,Tryz.results30,go_sem,e0,e1,e2,e3,e4]
end Go.Proofs.YtjjnmefihdjglaaGreat
