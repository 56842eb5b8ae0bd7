/- Layer 7: four lengths, by the document. -/
import Derived.Test.YtilinnmancfjgaaGreatDoorV7o
namespace Go.Proofs.YtilinnmancfjgaaGreatDoor
open Go.Sx
set_option linter.unusedSimpArgs false
set_option maxHeartbeats 4000000
set_option maxRecDepth 20000

end Go.Proofs.YtilinnmancfjgaaGreatDoor
