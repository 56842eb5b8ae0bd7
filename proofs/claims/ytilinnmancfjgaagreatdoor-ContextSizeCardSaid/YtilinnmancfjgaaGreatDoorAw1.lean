/- What the law's own example gives, run by the kernel in stages. -/
import Derived.Test.YtilinnmancfjgaaGreatDoorKn
import Derived.Test.YtilinnmancfjgaaGreatDoorCd
import Derived.Test.YtilinnmancfjgaaGreatDoorCe
namespace Go.Proofs.YtilinnmancfjgaaGreatDoor
open Go.Sx
set_option maxRecDepth 100000
def tabE : List (Fe Tryz.prog) := [⟨5, c5, c5_ok⟩, ⟨6, c6, c6_ok⟩, ⟨8, c8, c8_ok⟩, ⟨9, c9, c9_ok⟩, ⟨10, c10, c10_ok⟩, ⟨11, c11, c11_ok⟩, ⟨12, c12, c12_ok⟩, ⟨13, c13, c13_ok⟩, ⟨14, c14, c14_ok⟩, ⟨17, c17, c17_ok⟩, ⟨18, c18, c18_ok⟩, ⟨19, c19, c19_ok⟩, ⟨20, c20, c20_ok⟩, ⟨21, c21, c21_ok⟩, ⟨22, c22, c22_ok⟩, ⟨23, c23, c23_ok⟩, ⟨24, c24, c24_ok⟩, ⟨25, c25, c25_ok⟩, ⟨26, c26, c26_ok⟩, ⟨27, c27, c27_ok⟩, ⟨28, c28, c28_ok⟩, ⟨29, c29, c29_ok⟩, ⟨30, c30, c30_ok⟩, ⟨31, c31, c31_ok⟩, ⟨32, c32, c32_ok⟩, ⟨33, c33, c33_ok⟩, ⟨34, c34, c34_ok⟩, ⟨36, c36, c36_ok⟩, ⟨37, c37, c37_ok⟩, ⟨38, c38, c38_ok⟩, ⟨39, c39, c39_ok⟩, ⟨40, c40, c40_ok⟩, ⟨41, c41, c41_ok⟩, ⟨42, c42, c42_ok⟩, ⟨44, c44, c44_ok⟩, ⟨45, c45, c45_ok⟩, ⟨46, c46, c46_ok⟩, ⟨47, c47, c47_ok⟩, ⟨48, c48, c48_ok⟩, ⟨49, c49, c49_ok⟩, ⟨50, c50, c50_ok⟩, ⟨51, c51, c51_ok⟩, ⟨52, c52, c52_ok⟩, ⟨53, c53, c53_ok⟩, ⟨54, c54, c54_ok⟩, ⟨55, c55, c55_ok⟩, ⟨56, c56, c56_ok⟩, ⟨57, c57, c57_ok⟩, ⟨58, c58, c58_ok⟩, ⟨59, c59, c59_ok⟩, ⟨60, c60, c60_ok⟩, ⟨61, c61, c61_ok⟩, ⟨62, c62, c62_ok⟩, ⟨63, c63, c63_ok⟩, ⟨64, c64, c64_ok⟩, ⟨65, c65, c65_ok⟩, ⟨66, c66, c66_ok⟩, ⟨67, c67, c67_ok⟩, ⟨68, c68, c68_ok⟩, ⟨69, c69, c69_ok⟩, ⟨70, c70, c70_ok⟩, ⟨71, c71, c71_ok⟩, ⟨72, c72, c72_ok⟩, ⟨73, c73, c73_ok⟩, ⟨74, c74, c74_ok⟩, ⟨75, c75, c75_ok⟩, ⟨76, c76, c76_ok⟩, ⟨77, c77, c77_ok⟩, ⟨78, c78, c78_ok⟩, ⟨79, c79, c79_ok⟩, ⟨80, c80, c80_ok⟩, ⟨81, c81, c81_ok⟩, ⟨82, c82, c82_ok⟩, ⟨83, c83, c83_ok⟩, ⟨84, c84, c84_ok⟩, ⟨85, c85, c85_ok⟩, ⟨86, c86, c86_ok⟩, ⟨87, c87, c87_ok⟩, ⟨88, c88, c88_ok⟩, ⟨89, c89, c89_ok⟩, ⟨90, c90, c90_ok⟩, ⟨91, c91, c91_ok⟩, ⟨92, c92, c92_ok⟩, ⟨93, c93, c93_ok⟩, ⟨94, c94, c94_ok⟩, ⟨95, c95, c95_ok⟩, ⟨96, c96, c96_ok⟩, ⟨97, c97, c97_ok⟩, ⟨98, c98, c98_ok⟩, ⟨99, c99, c99_ok⟩, ⟨100, c100, c100_ok⟩, ⟨101, c101, c101_ok⟩, ⟨102, c102, c102_ok⟩, ⟨103, c103, c103_ok⟩, ⟨104, c104, c104_ok⟩, ⟨105, c105, c105_ok⟩, ⟨108, c108, c108_ok⟩, ⟨109, c109, c109_ok⟩, ⟨110, c110, c110_ok⟩, ⟨111, c111, c111_ok⟩, ⟨112, c112, c112_ok⟩, ⟨113, c113, c113_ok⟩, ⟨117, c117, c117_ok⟩, ⟨118, c118, c118_ok⟩, ⟨119, c119, c119_ok⟩, ⟨120, c120, c120_ok⟩, ⟨121, c121, c121_ok⟩, ⟨122, c122, c122_ok⟩, ⟨123, c123, c123_ok⟩, ⟨126, c126, c126_ok⟩, ⟨127, c127, c127_ok⟩, ⟨128, c128, c128_ok⟩, ⟨129, c129, c129_ok⟩, ⟨130, c130, c130_ok⟩, ⟨131, c131, c131_ok⟩, ⟨133, c133, c133_ok⟩, ⟨134, c134, c134_ok⟩]
def flatE : List Nat := [5, 17, 31, 32, 36, 37, 40, 41, 42, 50, 51, 53, 55, 56, 61, 62, 63, 64, 65, 71, 75, 76, 78, 79, 80, 81, 82, 83, 84, 85, 89, 91, 92, 94, 95, 97, 98, 100, 104, 112, 117, 118, 119, 120, 123, 126, 127, 128, 133]
def walkE : List Nat := [21, 38, 39, 60, 129, 130]
def lw0 : V := .agg [vs ⟨#[99, 111, 110, 116, 101, 110, 116]⟩, .slc 3 [[vi 6, vs ⟨#[120]⟩, vi 0]], vb false]
theorem tw0 : PCall Tryz.prog 37 [vi 3, lw0] (vb false) := ca_known (x := xtK []) (l := tabE) (fl := flatE) (wk := walkE) (lim := 900) (n := 60) (by decide +kernel)
def kw0 : Kn Tryz.prog := ⟨37, [vi 3, lw0], vb false, tw0⟩
def lw1 : V := .agg [vs ⟨#[99, 111, 108, 111, 114]⟩, .slc 3 [[vi 2, vs ⟨#[114, 101, 100]⟩, vi 0]], vb false]
theorem tw1 : PCall Tryz.prog 37 [vi 3, lw1] (vb false) := ca_known (x := xtK []) (l := tabE) (fl := flatE) (wk := walkE) (lim := 900) (n := 60) (by decide +kernel)
def kw1 : Kn Tryz.prog := ⟨37, [vi 3, lw1], vb false, tw1⟩
def lw2 : V := .agg [vi 2, .slc 3 [], .slc 3 [[vs ⟨#[99, 111, 108, 111, 114]⟩, .slc 3 [[vi 2, vs ⟨#[114, 101, 100]⟩, vi 0]], vb false]], .slc 2 [[vs ⟨#[116, 111, 112, 45, 108, 101, 102, 116]⟩, .slc 3 [[vs ⟨#[99, 111, 110, 116, 101, 110, 116]⟩, .slc 3 [[vi 6, vs ⟨#[120]⟩, vi 0]], vb false]]]]]
theorem tw2 : PCall Tryz.prog 59 [lw2, .agg [vi 1, vb false, vb false, vb false, vs ⟨#[]⟩, vi 0]] (.tup [.agg [vi 0, vi 0, vi 0], vb true]) := ca_known (x := xtK []) (l := tabE) (fl := flatE) (wk := walkE) (lim := 900) (n := 60) (by decide +kernel)
def kw2 : Kn Tryz.prog := ⟨59, [lw2, .agg [vi 1, vb false, vb false, vb false, vs ⟨#[]⟩, vi 0]], .tup [.agg [vi 0, vi 0, vi 0], vb true], tw2⟩
def lw3 : V := .slc 1 [[.slc 4 [[vi 2, .slc 3 [], .slc 3 [[vs ⟨#[99, 111, 108, 111, 114]⟩, .slc 3 [[vi 2, vs ⟨#[114, 101, 100]⟩, vi 0]], vb false]], .slc 2 [[vs ⟨#[116, 111, 112, 45, 108, 101, 102, 116]⟩, .slc 3 [[vs ⟨#[99, 111, 110, 116, 101, 110, 116]⟩, .slc 3 [[vi 6, vs ⟨#[120]⟩, vi 0]], vb false]]]]]]]]
def lw4 : V := .tup [.agg [vs ⟨#[]⟩, vnil, vb false], .agg [vi 0, vi 0, vi 0, vi 0, vi 0], vb false]
theorem tw3 : PCall Tryz.prog 19 [lw3, .agg [vi 1, vb false, vb false, vb false, vs ⟨#[]⟩, vi 0], vi 1, vi 3] (lw4) := ca_known (x := xtK [kw0, kw1, kw2]) (l := tabE) (fl := flatE) (wk := walkE) (lim := 900) (n := 60) (by decide +kernel)
def kw3 : Kn Tryz.prog := ⟨19, [lw3, .agg [vi 1, vb false, vb false, vb false, vs ⟨#[]⟩, vi 0], vi 1, vi 3], lw4, tw3⟩
theorem tw4 : PCall Tryz.prog 37 [vi 2, lw0] (vb false) := ca_known (x := xtK []) (l := tabE) (fl := flatE) (wk := walkE) (lim := 900) (n := 60) (by decide +kernel)
def kw4 : Kn Tryz.prog := ⟨37, [vi 2, lw0], vb false, tw4⟩
theorem tw5 : PCall Tryz.prog 37 [vi 2, lw1] (vb false) := ca_known (x := xtK []) (l := tabE) (fl := flatE) (wk := walkE) (lim := 900) (n := 60) (by decide +kernel)
def kw5 : Kn Tryz.prog := ⟨37, [vi 2, lw1], vb false, tw5⟩
theorem tw6 : PCall Tryz.prog 19 [lw3, .agg [vi 1, vb false, vb false, vb false, vs ⟨#[]⟩, vi 0], vi 1, vi 2] (lw4) := ca_known (x := xtK [kw0, kw1, kw2, kw4, kw5]) (l := tabE) (fl := flatE) (wk := walkE) (lim := 900) (n := 60) (by decide +kernel)
def kw6 : Kn Tryz.prog := ⟨19, [lw3, .agg [vi 1, vb false, vb false, vb false, vs ⟨#[]⟩, vi 0], vi 1, vi 2], lw4, tw6⟩
theorem tw7 : PCall Tryz.prog 37 [vi 1, lw0] (vb false) := ca_known (x := xtK []) (l := tabE) (fl := flatE) (wk := walkE) (lim := 900) (n := 60) (by decide +kernel)
def kw7 : Kn Tryz.prog := ⟨37, [vi 1, lw0], vb false, tw7⟩
theorem tw8 : PCall Tryz.prog 37 [vi 1, lw1] (vb true) := ca_known (x := xtK []) (l := tabE) (fl := flatE) (wk := walkE) (lim := 900) (n := 60) (by decide +kernel)
def kw8 : Kn Tryz.prog := ⟨37, [vi 1, lw1], vb true, tw8⟩
theorem tw9 : PCall Tryz.prog 19 [lw3, .agg [vi 1, vb false, vb false, vb false, vs ⟨#[]⟩, vi 0], vi 1, vi 1] (lw4) := ca_known (x := xtK [kw0, kw1, kw2, kw4, kw5, kw7, kw8]) (l := tabE) (fl := flatE) (wk := walkE) (lim := 900) (n := 60) (by decide +kernel)
def kw9 : Kn Tryz.prog := ⟨19, [lw3, .agg [vi 1, vb false, vb false, vb false, vs ⟨#[]⟩, vi 0], vi 1, vi 1], lw4, tw9⟩
theorem tw10 : PCall Tryz.prog 37 [vi 0, lw0] (vb true) := ca_known (x := xtK []) (l := tabE) (fl := flatE) (wk := walkE) (lim := 900) (n := 60) (by decide +kernel)
def kw10 : Kn Tryz.prog := ⟨37, [vi 0, lw0], vb true, tw10⟩
theorem tw11 : PCall Tryz.prog 37 [vi 0, lw1] (vb false) := ca_known (x := xtK []) (l := tabE) (fl := flatE) (wk := walkE) (lim := 900) (n := 60) (by decide +kernel)
def kw11 : Kn Tryz.prog := ⟨37, [vi 0, lw1], vb false, tw11⟩
def lw5 : V := .tup [.agg [vs ⟨#[99, 111, 110, 116, 101, 110, 116]⟩, .slc 3 [[vi 6, vs ⟨#[120]⟩, vi 0]], vb false], .agg [vi 0, vi 0, vi 0, vi 0, vi 1], vb true]
theorem tw12 : PCall Tryz.prog 19 [lw3, .agg [vi 1, vb false, vb false, vb false, vs ⟨#[]⟩, vi 0], vi 1, vi 0] (lw5) := ca_known (x := xtK [kw0, kw1, kw2, kw4, kw5, kw7, kw8, kw10, kw11]) (l := tabE) (fl := flatE) (wk := walkE) (lim := 900) (n := 60) (by decide +kernel)
def kw12 : Kn Tryz.prog := ⟨19, [lw3, .agg [vi 1, vb false, vb false, vb false, vs ⟨#[]⟩, vi 0], vi 1, vi 0], lw5, tw12⟩
theorem tw13 : PCall Tryz.prog 36 [vi 9, lw0] (vb false) := ca_known (x := xtK []) (l := tabE) (fl := flatE) (wk := walkE) (lim := 900) (n := 60) (by decide +kernel)
def kw13 : Kn Tryz.prog := ⟨36, [vi 9, lw0], vb false, tw13⟩
theorem tw14 : PCall Tryz.prog 36 [vi 9, lw1] (vb false) := ca_known (x := xtK []) (l := tabE) (fl := flatE) (wk := walkE) (lim := 900) (n := 60) (by decide +kernel)
def kw14 : Kn Tryz.prog := ⟨36, [vi 9, lw1], vb false, tw14⟩
theorem tw15 : PCall Tryz.prog 19 [lw3, .agg [vi 1, vb false, vb false, vb false, vs ⟨#[]⟩, vi 0], vi (-1), vi 9] (lw4) := ca_known (x := xtK [kw0, kw1, kw2, kw4, kw5, kw7, kw8, kw10, kw11, kw13, kw14]) (l := tabE) (fl := flatE) (wk := walkE) (lim := 900) (n := 60) (by decide +kernel)
def kw15 : Kn Tryz.prog := ⟨19, [lw3, .agg [vi 1, vb false, vb false, vb false, vs ⟨#[]⟩, vi 0], vi (-1), vi 9], lw4, tw15⟩
theorem tw16 : PCall Tryz.prog 36 [vi 8, lw0] (vb false) := ca_known (x := xtK []) (l := tabE) (fl := flatE) (wk := walkE) (lim := 900) (n := 60) (by decide +kernel)
def kw16 : Kn Tryz.prog := ⟨36, [vi 8, lw0], vb false, tw16⟩
theorem tw17 : PCall Tryz.prog 36 [vi 8, lw1] (vb true) := ca_known (x := xtK []) (l := tabE) (fl := flatE) (wk := walkE) (lim := 900) (n := 60) (by decide +kernel)
def kw17 : Kn Tryz.prog := ⟨36, [vi 8, lw1], vb true, tw17⟩
def lw6 : V := .tup [.agg [vs ⟨#[99, 111, 108, 111, 114]⟩, .slc 3 [[vi 2, vs ⟨#[114, 101, 100]⟩, vi 0]], vb false], .agg [vi 0, vi 0, vi 0, vi 0, vi 0], vb true]
theorem tw18 : PCall Tryz.prog 19 [lw3, .agg [vi 1, vb false, vb false, vb false, vs ⟨#[]⟩, vi 0], vi (-1), vi 8] (lw6) := ca_known (x := xtK [kw0, kw1, kw2, kw4, kw5, kw7, kw8, kw10, kw11, kw13, kw14, kw16, kw17]) (l := tabE) (fl := flatE) (wk := walkE) (lim := 900) (n := 60) (by decide +kernel)
def kw18 : Kn Tryz.prog := ⟨19, [lw3, .agg [vi 1, vb false, vb false, vb false, vs ⟨#[]⟩, vi 0], vi (-1), vi 8], lw6, tw18⟩
theorem tw19 : PCall Tryz.prog 36 [vi 7, lw0] (vb false) := ca_known (x := xtK []) (l := tabE) (fl := flatE) (wk := walkE) (lim := 900) (n := 60) (by decide +kernel)
def kw19 : Kn Tryz.prog := ⟨36, [vi 7, lw0], vb false, tw19⟩
theorem tw20 : PCall Tryz.prog 36 [vi 7, lw1] (vb false) := ca_known (x := xtK []) (l := tabE) (fl := flatE) (wk := walkE) (lim := 900) (n := 60) (by decide +kernel)
def kw20 : Kn Tryz.prog := ⟨36, [vi 7, lw1], vb false, tw20⟩
theorem tw21 : PCall Tryz.prog 19 [lw3, .agg [vi 1, vb false, vb false, vb false, vs ⟨#[]⟩, vi 0], vi (-1), vi 7] (lw4) := ca_known (x := xtK [kw0, kw1, kw2, kw4, kw5, kw7, kw8, kw10, kw11, kw13, kw14, kw16, kw17, kw19, kw20]) (l := tabE) (fl := flatE) (wk := walkE) (lim := 900) (n := 60) (by decide +kernel)
def kw21 : Kn Tryz.prog := ⟨19, [lw3, .agg [vi 1, vb false, vb false, vb false, vs ⟨#[]⟩, vi 0], vi (-1), vi 7], lw4, tw21⟩
theorem tw22 : PCall Tryz.prog 36 [vi 6, lw0] (vb false) := ca_known (x := xtK []) (l := tabE) (fl := flatE) (wk := walkE) (lim := 900) (n := 60) (by decide +kernel)
def kw22 : Kn Tryz.prog := ⟨36, [vi 6, lw0], vb false, tw22⟩
theorem tw23 : PCall Tryz.prog 36 [vi 6, lw1] (vb false) := ca_known (x := xtK []) (l := tabE) (fl := flatE) (wk := walkE) (lim := 900) (n := 60) (by decide +kernel)
def kw23 : Kn Tryz.prog := ⟨36, [vi 6, lw1], vb false, tw23⟩
theorem tw24 : PCall Tryz.prog 19 [lw3, .agg [vi 1, vb false, vb false, vb false, vs ⟨#[]⟩, vi 0], vi (-1), vi 6] (lw4) := ca_known (x := xtK [kw0, kw1, kw2, kw4, kw5, kw7, kw8, kw10, kw11, kw13, kw14, kw16, kw17, kw19, kw20, kw22, kw23]) (l := tabE) (fl := flatE) (wk := walkE) (lim := 900) (n := 60) (by decide +kernel)
def kw24 : Kn Tryz.prog := ⟨19, [lw3, .agg [vi 1, vb false, vb false, vb false, vs ⟨#[]⟩, vi 0], vi (-1), vi 6], lw4, tw24⟩
end Go.Proofs.YtilinnmancfjgaaGreatDoor
