import Derived.Test.YtjjnmefihdjglaaGreatKS
set_option maxRecDepth 100000
set_option maxHeartbeats 64000000
set_option linter.all false
namespace Go.Proofs.YtjjnmefihdjglaaGreat
open Go.RowKit
theorem PtIn.all {b : Nat} {v : Value} {r : Int} {f : Bool} {M S m s : Int} {t : Bool} {T : Int} {w : World} (h : PtIn b v r f M S m s t T w) (v' : Value) (r' : Int) (f' : Bool) (M' S' m' s' : Int) (t' : Bool) (T' : Int) :
  PtIn b v' r' f' M' S' m' s' t' T' (((((((((w.setCell ⟨b,0,none⟩ v').setCell ⟨b,1,none⟩ (.int .i64 r')).setCell ⟨b,2,none⟩ (.bool f')).setCell ⟨b,3,none⟩ (.int .i64 M')).setCell ⟨b,4,none⟩ (.int .i64 S')).setCell ⟨b,5,none⟩ (.int .i64 m')).setCell ⟨b,6,none⟩ (.int .i64 s')).setCell ⟨b,7,none⟩ (.bool t')).setCell ⟨b,8,none⟩ (.int .i64 T')) := by
 have e := heap_setCells b [v',.int .i64 r',.bool f',.int .i64 M',.int .i64 S',.int .i64 m',.int .i64 s',.bool t',.int .i64 T'] 0 w _ _ _ h
 rw [show setL #[v,.int .i64 r,.bool f,.int .i64 M,.int .i64 S,.int .i64 m,.int .i64 s,.bool t,.int .i64 T] 0 [v',.int .i64 r',.bool f',.int .i64 M',.int .i64 S',.int .i64 m',.int .i64 s',.bool t',.int .i64 T'] = #[v',.int .i64 r',.bool f',.int .i64 M',.int .i64 S',.int .i64 m',.int .i64 s',.bool t',.int .i64 T'] from by simp [setL]] at e
 simp only [World.setCells] at e
 exact e
end Go.Proofs.YtjjnmefihdjglaaGreat
