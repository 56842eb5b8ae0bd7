/- What the law's own example gives, run by the kernel. -/
import Derived.Test.YtlcblcjpebabkaaEv
import Derived.Test.YtlcblcjpebabkaaCd
import Derived.Test.YtlcblcjpebabkaaCe
namespace Go.Proofs.Ytlcblcjpebabkaa
open Go.Sx
set_option maxRecDepth 100000
def tabE : List (Fe Try.prog) := [⟨8, c8, c8_ok⟩, ⟨9, c9, c9_ok⟩, ⟨10, c10, c10_ok⟩, ⟨11, c11, c11_ok⟩, ⟨12, c12, c12_ok⟩, ⟨13, c13, c13_ok⟩, ⟨14, c14, c14_ok⟩, ⟨15, c15, c15_ok⟩, ⟨16, c16, c16_ok⟩, ⟨17, c17, c17_ok⟩, ⟨18, c18, c18_ok⟩, ⟨19, c19, c19_ok⟩, ⟨20, c20, c20_ok⟩, ⟨21, c21, c21_ok⟩, ⟨22, c22, c22_ok⟩, ⟨23, c23, c23_ok⟩, ⟨24, c24, c24_ok⟩, ⟨25, c25, c25_ok⟩, ⟨26, c26, c26_ok⟩, ⟨27, c27, c27_ok⟩, ⟨28, c28, c28_ok⟩, ⟨29, c29, c29_ok⟩, ⟨30, c30, c30_ok⟩, ⟨31, c31, c31_ok⟩, ⟨32, c32, c32_ok⟩, ⟨33, c33, c33_ok⟩, ⟨34, c34, c34_ok⟩, ⟨35, c35, c35_ok⟩, ⟨36, c36, c36_ok⟩, ⟨37, c37, c37_ok⟩, ⟨38, c38, c38_ok⟩, ⟨39, c39, c39_ok⟩, ⟨40, c40, c40_ok⟩, ⟨41, c41, c41_ok⟩, ⟨42, c42, c42_ok⟩, ⟨43, c43, c43_ok⟩, ⟨44, c44, c44_ok⟩, ⟨45, c45, c45_ok⟩, ⟨46, c46, c46_ok⟩, ⟨47, c47, c47_ok⟩, ⟨48, c48, c48_ok⟩, ⟨49, c49, c49_ok⟩, ⟨50, c50, c50_ok⟩, ⟨51, c51, c51_ok⟩, ⟨52, c52, c52_ok⟩, ⟨53, c53, c53_ok⟩, ⟨54, c54, c54_ok⟩, ⟨55, c55, c55_ok⟩, ⟨56, c56, c56_ok⟩, ⟨57, c57, c57_ok⟩, ⟨58, c58, c58_ok⟩, ⟨59, c59, c59_ok⟩, ⟨60, c60, c60_ok⟩, ⟨61, c61, c61_ok⟩, ⟨62, c62, c62_ok⟩, ⟨63, c63, c63_ok⟩, ⟨64, c64, c64_ok⟩, ⟨65, c65, c65_ok⟩, ⟨66, c66, c66_ok⟩, ⟨67, c67, c67_ok⟩, ⟨68, c68, c68_ok⟩, ⟨69, c69, c69_ok⟩, ⟨70, c70, c70_ok⟩, ⟨71, c71, c71_ok⟩, ⟨72, c72, c72_ok⟩, ⟨73, c73, c73_ok⟩, ⟨74, c74, c74_ok⟩, ⟨75, c75, c75_ok⟩, ⟨76, c76, c76_ok⟩, ⟨77, c77, c77_ok⟩, ⟨78, c78, c78_ok⟩, ⟨79, c79, c79_ok⟩, ⟨80, c80, c80_ok⟩, ⟨81, c81, c81_ok⟩, ⟨82, c82, c82_ok⟩, ⟨83, c83, c83_ok⟩, ⟨84, c84, c84_ok⟩, ⟨85, c85, c85_ok⟩, ⟨86, c86, c86_ok⟩, ⟨87, c87, c87_ok⟩]
def flatE : List Nat := [8, 9, 11, 14, 18, 19, 23, 24, 25, 26, 27, 31, 39, 49, 50, 56, 57, 60, 61, 63, 64, 67, 69, 72, 73, 75, 76, 77, 78, 81, 82, 86, 87]
def walkE : List Nat := [84, 85]
theorem awake_ok : PCall Try.prog 9 [] (vb true) := ca_true (l := tabE) (fl := flatE) (wk := walkE) (lim := 600) (n := 40) (by decide +kernel)
end Go.Proofs.Ytlcblcjpebabkaa
