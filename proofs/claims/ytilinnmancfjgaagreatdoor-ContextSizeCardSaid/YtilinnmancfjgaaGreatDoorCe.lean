/- The compiled forms of functions; printed by a program, checked by the kernel. -/
import Derived.Test.YtilinnmancfjgaaGreatDoorE4
import Derived.Test.YtilinnmancfjgaaGreatDoorProg
namespace Go.Proofs.YtilinnmancfjgaaGreatDoor
open Go.Sx
def c3 : FnC := ⟨41, [.tmp 2], .seq (.reg [ox 2 (.mov (.k (.bool .false)))]) (.seq (.seq (.reg [om 9 0, ox 10 (.call 4 [.t 9]), ox 11 (.un .not (.t 10))]) (.cond (.t 11) (.seq (.reg [ox 12 (.call 5 []), om 2 12]) .ret) .skip)) (.seq (.reg [om 14 0, ox 15 (.call 6 [.t 14]), om 13 15, ox 16 (.extract (.t 13) 0), ox 17 (.extract (.t 13) 1), ox 18 (.extract (.t 13) 2), om 3 16, om 4 17, om 5 18]) (.seq (.reg [om 20 0, ox 21 (.call 7 [.t 20]), om 19 21, ox 22 (.extract (.t 19) 0), ox 23 (.extract (.t 19) 1), ox 24 (.extract (.t 19) 2), om 6 22, om 7 23, om 8 24]) (.seq (.reg [om 25 3, om 26 6, ox 27 (.bin .eql (.t 25) (.t 26)), om 28 27, oym 29 28 4, oym 30 28 7, oy 31 28 (.bin .eql (.t 29) (.t 30)), oa 32 28 31, om 33 32, oym 34 33 5, oym 35 33 8, oy 36 33 (.eqb .false (.t 34) (.t 35)), oa 37 33 36, om 38 37, oy 39 38 (.call 5 []), oa 40 38 39, om 2 40]) .ret))))⟩
theorem c3_ok : compF Tryz.prog 3 = some c3 := by kernel_rfl
end Go.Proofs.YtilinnmancfjgaaGreatDoor
