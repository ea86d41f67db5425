import Derived.Test.YtjjnmefihdjglaaGreatMgQ
set_option maxRecDepth 100000
set_option maxHeartbeats 64000000
set_option linter.all false
namespace Go.Proofs.YtjjnmefihdjglaaGreat
open Go.RowKit
end Go.Proofs.YtjjnmefihdjglaaGreat
