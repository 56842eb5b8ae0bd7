/- What the law's own example gives, run by the kernel. -/
import Derived.Test.YteifbbinfipdlaaEv
import Derived.Test.YteifbbinfipdlaaK19b
import Derived.Test.YteifbbinfipdlaaCd
import Derived.Test.YteifbbinfipdlaaCe
namespace Go.Proofs.Yteifbbinfipdlaa
open Go.Sx
set_option maxRecDepth 100000
def tabE : List (Fe Try.prog) := [⟨3, c3, c3_ok⟩, ⟨4, c4, c4_ok⟩, ⟨5, c5, c5_ok⟩, ⟨6, c6, c6_ok⟩, ⟨7, c7, c7_ok⟩, ⟨8, c8, c8_ok⟩, ⟨9, c9, c9_ok⟩, ⟨10, c10, c10_ok⟩, ⟨11, c11, c11_ok⟩, ⟨12, c12, c12_ok⟩, ⟨13, c13, c13_ok⟩, ⟨14, c14, c14_ok⟩, ⟨15, c15, c15_ok⟩, ⟨16, c16, c16_ok⟩, ⟨17, c17, c17_ok⟩, ⟨18, c18, c18_ok⟩, ⟨19, c19, c19_ok⟩, ⟨20, c20, c20_ok⟩, ⟨21, c21, c21_ok⟩, ⟨22, c22, c22_ok⟩, ⟨23, c23, c23_ok⟩, ⟨24, c24, c24_ok⟩, ⟨25, c25, c25_ok⟩, ⟨26, c26, c26_ok⟩, ⟨27, c27, c27_ok⟩, ⟨28, c28, c28_ok⟩, ⟨29, c29, c29_ok⟩, ⟨30, c30, c30_ok⟩, ⟨31, c31, c31_ok⟩, ⟨32, c32, c32_ok⟩, ⟨33, c33, c33_ok⟩, ⟨34, c34, c34_ok⟩, ⟨35, c35, c35_ok⟩, ⟨36, c36, c36_ok⟩, ⟨37, c37, c37_ok⟩, ⟨38, c38, c38_ok⟩, ⟨39, c39, c39_ok⟩, ⟨40, c40, c40_ok⟩, ⟨41, c41, c41_ok⟩, ⟨42, c42, c42_ok⟩, ⟨43, c43, c43_ok⟩, ⟨44, c44, c44_ok⟩, ⟨45, c45, c45_ok⟩, ⟨46, c46, c46_ok⟩, ⟨47, c47, c47_ok⟩, ⟨48, c48, c48_ok⟩, ⟨49, c49, c49_ok⟩, ⟨50, c50, c50_ok⟩, ⟨51, c51, c51_ok⟩, ⟨52, c52, c52_ok⟩, ⟨53, c53, c53_ok⟩, ⟨54, c54, c54_ok⟩]
def flatE : List Nat := [8, 9, 19, 20, 22, 24, 25, 27, 28, 31, 32, 33, 34, 36, 38, 39, 40, 43, 45, 46, 47, 48, 50, 51, 52, 53, 54]
def walkE : List Nat := [29, 30, 26]
theorem awake_ok : PCall Try.prog 9 [] (vb true) := caX_true (x := xt19) (l := tabE) (fl := flatE) (wk := walkE) (lim := 600) (n := 40) (by decide +kernel)
end Go.Proofs.Yteifbbinfipdlaa
