/- Layer 7: breaks, page names, running elements. -/
import Derived.Test.YtilinnmancfjgaaGreatDoorV7d
import Derived.Test.YtilinnmancfjgaaGreatDoorAw
import Derived.Test.YtilinnmancfjgaaGreatDoorCe
namespace Go.Proofs.YtilinnmancfjgaaGreatDoor
open Go.Sx
set_option linter.unusedSimpArgs false
set_option maxHeartbeats 4000000
set_option maxRecDepth 20000

end Go.Proofs.YtilinnmancfjgaaGreatDoor
