/- Layer 7: items of content lists, plainly. -/
import Derived.Test.YtilinnmancfjgaaGreatDoorV7f
namespace Go.Proofs.YtilinnmancfjgaaGreatDoor
open Go.Sx
set_option linter.unusedSimpArgs false
set_option maxHeartbeats 4000000
set_option maxRecDepth 20000

structure Itm where
  kind : Int
  text : ByteArray
  name : ByteArray
  style : Int
  which : Int
instance : Inhabited Itm := ⟨⟨0, ⟨#[]⟩, ⟨#[]⟩, 0, 0⟩⟩
def Itm.zero : Itm := ⟨0, ⟨#[]⟩, ⟨#[]⟩, 0, 0⟩
def Itm.enc (x : Itm) : List V := [vi x.kind, vs x.text, vs x.name, vi x.style, vi x.which]
/-! ### Arguments between commas -/
/-! ### Items -/
end Go.Proofs.YtilinnmancfjgaaGreatDoor
