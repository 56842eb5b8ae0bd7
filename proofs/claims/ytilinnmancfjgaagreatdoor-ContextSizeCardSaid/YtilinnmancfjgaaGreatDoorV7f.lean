/- Layer 7: page names, running elements. -/
import Derived.Test.YtilinnmancfjgaaGreatDoorV7e
namespace Go.Proofs.YtilinnmancfjgaaGreatDoor
open Go.Sx
set_option linter.unusedSimpArgs false
set_option maxHeartbeats 4000000
set_option maxRecDepth 20000

end Go.Proofs.YtilinnmancfjgaaGreatDoor
