/- What the law's own example gives, run by the kernel in stages. -/
import Derived.Test.YtilinnmancfjgaaGreatDoorAw5
namespace Go.Proofs.YtilinnmancfjgaaGreatDoor
open Go.Sx
set_option maxRecDepth 100000
theorem tw125 : PCall Tryz.prog 46 [.slc 3 [[vi 10, vs ⟨#[112, 120]⟩, vi 1000]]] (.tup [.slc 1 [[vi (-1)]], vi 0]) := ca_known (x := xtK []) (l := tabE) (fl := flatE) (wk := walkE) (lim := 900) (n := 60) (by decide +kernel)
def kw125 : Kn Tryz.prog := ⟨46, [.slc 3 [[vi 10, vs ⟨#[112, 120]⟩, vi 1000]]], .tup [.slc 1 [[vi (-1)]], vi 0], tw125⟩
theorem tw126 : PCall Tryz.prog 50 [.slc 3 [[vi 10, vs ⟨#[112, 120]⟩, vi 1000]]] (vb true) := ca_known (x := xtK [kw45, kw47, kw51, kw55, kw119, kw121, kw125]) (l := tabE) (fl := flatE) (wk := walkE) (lim := 900) (n := 60) (by decide +kernel)
def kw126 : Kn Tryz.prog := ⟨50, [.slc 3 [[vi 10, vs ⟨#[112, 120]⟩, vi 1000]]], vb true, tw126⟩
def lw38 : V := .tup [.agg [vs ⟨#[109, 97, 114, 103, 105, 110]⟩, .slc 3 [[vi 10, vs ⟨#[112, 120]⟩, vi 1000]], vb false], vb true]
theorem tw127 : PCall Tryz.prog 74 [lw34, vi 2, vi 5] (lw38) := ca_known (x := xtK [kw46, kw48, kw52, kw120, kw122, kw126]) (l := tabE) (fl := flatE) (wk := walkE) (lim := 900) (n := 60) (by decide +kernel)
def kw127 : Kn Tryz.prog := ⟨74, [lw34, vi 2, vi 5], lw38, tw127⟩
def lw39 : V := .tup [.slc 3 [[vs ⟨#[109, 97, 114, 103, 105, 110]⟩, .slc 3 [[vi 10, vs ⟨#[112, 120]⟩, vi 1000]], vb false]], vnil]
theorem tw128 : PCall Tryz.prog 49 [lw34, lw36, vi 2, vi 5, vb true] (lw39) := ca_known (x := xtK [kw49, kw50, kw53, kw54, kw123, kw124, kw127]) (l := tabE) (fl := flatE) (wk := walkE) (lim := 900) (n := 60) (by decide +kernel)
def kw128 : Kn Tryz.prog := ⟨49, [lw34, lw36, vi 2, vi 5, vb true], lw39, tw128⟩
def lw40 : V := .tup [.slc 1 [[vi (-1)], [vi 5], [vi (-1)], [vi (-1)], [vi (-1)], [vi (-1)], [vi (-1)], [vi (-1)], [vi (-1)], [vi (-1)], [vi (-1)], [vi 15], [vi (-1)], [vi (-1)], [vi (-1)], [vi (-1)]], vi 0]
theorem tw129 : PCall Tryz.prog 46 [lw34] (lw40) := ca_known (x := xtK []) (l := tabE) (fl := flatE) (wk := walkE) (lim := 900) (n := 60) (by decide +kernel)
def kw129 : Kn Tryz.prog := ⟨46, [lw34], lw40, tw129⟩
def lw41 : V := .slc 1 [[vi 64], [vi 112], [vi 97], [vi 103], [vi 101], [vi 123], [vi 109], [vi 97], [vi 114], [vi 103], [vi 105], [vi 110], [vi 58], [vi 49], [vi 112], [vi 120], [vi 125], [vi 32], [vi 64], [vi 112], [vi 97], [vi 103], [vi 101], [vi 32], [vi 58], [vi 108], [vi 101], [vi 102], [vi 116], [vi 123], [vi 109], [vi 97], [vi 114], [vi 103], [vi 105], [vi 110], [vi 45], [vi 116], [vi 111], [vi 112], [vi 58], [vi 50], [vi 112], [vi 120], [vi 125]]
theorem tw130 : PCall Tryz.prog 69 [lw41, vi 44] (.tup [.agg [vi 13, vs ⟨#[125]⟩, vi 0], vi 45]) := ca_known (x := xtK []) (l := tabE) (fl := flatE) (wk := walkE) (lim := 900) (n := 60) (by decide +kernel)
def kw130 : Kn Tryz.prog := ⟨69, [lw41, vi 44], .tup [.agg [vi 13, vs ⟨#[125]⟩, vi 0], vi 45], tw130⟩
theorem tw131 : PCall Tryz.prog 68 [lw41, vi 44] (.tup [vi 44, vb false]) := ca_known (x := xtK []) (l := tabE) (fl := flatE) (wk := walkE) (lim := 900) (n := 60) (by decide +kernel)
def kw131 : Kn Tryz.prog := ⟨68, [lw41, vi 44], .tup [vi 44, vb false], tw131⟩
theorem tw132 : PCall Tryz.prog 69 [lw41, vi 41] (.tup [.agg [vi 10, vs ⟨#[112, 120]⟩, vi 2000], vi 44]) := ca_known (x := xtK []) (l := tabE) (fl := flatE) (wk := walkE) (lim := 900) (n := 60) (by decide +kernel)
def kw132 : Kn Tryz.prog := ⟨69, [lw41, vi 41], .tup [.agg [vi 10, vs ⟨#[112, 120]⟩, vi 2000], vi 44], tw132⟩
theorem tw133 : PCall Tryz.prog 68 [lw41, vi 41] (.tup [vi 41, vb false]) := ca_known (x := xtK []) (l := tabE) (fl := flatE) (wk := walkE) (lim := 900) (n := 60) (by decide +kernel)
def kw133 : Kn Tryz.prog := ⟨68, [lw41, vi 41], .tup [vi 41, vb false], tw133⟩
theorem tw134 : PCall Tryz.prog 69 [lw41, vi 40] (.tup [.agg [vi 14, vs ⟨#[]⟩, vi 0], vi 41]) := ca_known (x := xtK []) (l := tabE) (fl := flatE) (wk := walkE) (lim := 900) (n := 60) (by decide +kernel)
def kw134 : Kn Tryz.prog := ⟨69, [lw41, vi 40], .tup [.agg [vi 14, vs ⟨#[]⟩, vi 0], vi 41], tw134⟩
theorem tw135 : PCall Tryz.prog 68 [lw41, vi 40] (.tup [vi 40, vb false]) := ca_known (x := xtK []) (l := tabE) (fl := flatE) (wk := walkE) (lim := 900) (n := 60) (by decide +kernel)
def kw135 : Kn Tryz.prog := ⟨68, [lw41, vi 40], .tup [vi 40, vb false], tw135⟩
def lw42 : V := .tup [.agg [vi 2, vs ⟨#[109, 97, 114, 103, 105, 110, 45, 116, 111, 112]⟩, vi 0], vi 40]
theorem tw136 : PCall Tryz.prog 69 [lw41, vi 30] (lw42) := ca_known (x := xtK []) (l := tabE) (fl := flatE) (wk := walkE) (lim := 900) (n := 60) (by decide +kernel)
def kw136 : Kn Tryz.prog := ⟨69, [lw41, vi 30], lw42, tw136⟩
theorem tw137 : PCall Tryz.prog 68 [lw41, vi 30] (.tup [vi 30, vb false]) := ca_known (x := xtK []) (l := tabE) (fl := flatE) (wk := walkE) (lim := 900) (n := 60) (by decide +kernel)
def kw137 : Kn Tryz.prog := ⟨68, [lw41, vi 30], .tup [vi 30, vb false], tw137⟩
theorem tw138 : PCall Tryz.prog 69 [lw41, vi 29] (.tup [.agg [vi 12, vs ⟨#[123]⟩, vi 0], vi 30]) := ca_known (x := xtK []) (l := tabE) (fl := flatE) (wk := walkE) (lim := 900) (n := 60) (by decide +kernel)
def kw138 : Kn Tryz.prog := ⟨69, [lw41, vi 29], .tup [.agg [vi 12, vs ⟨#[123]⟩, vi 0], vi 30], tw138⟩
theorem tw139 : PCall Tryz.prog 68 [lw41, vi 29] (.tup [vi 29, vb false]) := ca_known (x := xtK []) (l := tabE) (fl := flatE) (wk := walkE) (lim := 900) (n := 60) (by decide +kernel)
def kw139 : Kn Tryz.prog := ⟨68, [lw41, vi 29], .tup [vi 29, vb false], tw139⟩
theorem tw140 : PCall Tryz.prog 69 [lw41, vi 25] (.tup [.agg [vi 2, vs ⟨#[108, 101, 102, 116]⟩, vi 0], vi 29]) := ca_known (x := xtK []) (l := tabE) (fl := flatE) (wk := walkE) (lim := 900) (n := 60) (by decide +kernel)
def kw140 : Kn Tryz.prog := ⟨69, [lw41, vi 25], .tup [.agg [vi 2, vs ⟨#[108, 101, 102, 116]⟩, vi 0], vi 29], tw140⟩
theorem tw141 : PCall Tryz.prog 68 [lw41, vi 25] (.tup [vi 25, vb false]) := ca_known (x := xtK []) (l := tabE) (fl := flatE) (wk := walkE) (lim := 900) (n := 60) (by decide +kernel)
def kw141 : Kn Tryz.prog := ⟨68, [lw41, vi 25], .tup [vi 25, vb false], tw141⟩
theorem tw142 : PCall Tryz.prog 69 [lw41, vi 24] (.tup [.agg [vi 14, vs ⟨#[]⟩, vi 0], vi 25]) := ca_known (x := xtK []) (l := tabE) (fl := flatE) (wk := walkE) (lim := 900) (n := 60) (by decide +kernel)
def kw142 : Kn Tryz.prog := ⟨69, [lw41, vi 24], .tup [.agg [vi 14, vs ⟨#[]⟩, vi 0], vi 25], tw142⟩
theorem tw143 : PCall Tryz.prog 68 [lw41, vi 23] (.tup [vi 24, vb true]) := ca_known (x := xtK []) (l := tabE) (fl := flatE) (wk := walkE) (lim := 900) (n := 60) (by decide +kernel)
def kw143 : Kn Tryz.prog := ⟨68, [lw41, vi 23], .tup [vi 24, vb true], tw143⟩
theorem tw144 : PCall Tryz.prog 69 [lw41, vi 18] (.tup [.agg [vi 4, vs ⟨#[112, 97, 103, 101]⟩, vi 0], vi 23]) := ca_known (x := xtK []) (l := tabE) (fl := flatE) (wk := walkE) (lim := 900) (n := 60) (by decide +kernel)
def kw144 : Kn Tryz.prog := ⟨69, [lw41, vi 18], .tup [.agg [vi 4, vs ⟨#[112, 97, 103, 101]⟩, vi 0], vi 23], tw144⟩
theorem tw145 : PCall Tryz.prog 68 [lw41, vi 17] (.tup [vi 18, vb true]) := ca_known (x := xtK []) (l := tabE) (fl := flatE) (wk := walkE) (lim := 900) (n := 60) (by decide +kernel)
def kw145 : Kn Tryz.prog := ⟨68, [lw41, vi 17], .tup [vi 18, vb true], tw145⟩
theorem tw146 : PCall Tryz.prog 69 [lw41, vi 16] (.tup [.agg [vi 13, vs ⟨#[125]⟩, vi 0], vi 17]) := ca_known (x := xtK []) (l := tabE) (fl := flatE) (wk := walkE) (lim := 900) (n := 60) (by decide +kernel)
def kw146 : Kn Tryz.prog := ⟨69, [lw41, vi 16], .tup [.agg [vi 13, vs ⟨#[125]⟩, vi 0], vi 17], tw146⟩
theorem tw147 : PCall Tryz.prog 68 [lw41, vi 16] (.tup [vi 16, vb false]) := ca_known (x := xtK []) (l := tabE) (fl := flatE) (wk := walkE) (lim := 900) (n := 60) (by decide +kernel)
def kw147 : Kn Tryz.prog := ⟨68, [lw41, vi 16], .tup [vi 16, vb false], tw147⟩
theorem tw148 : PCall Tryz.prog 69 [lw41, vi 13] (.tup [.agg [vi 10, vs ⟨#[112, 120]⟩, vi 1000], vi 16]) := ca_known (x := xtK []) (l := tabE) (fl := flatE) (wk := walkE) (lim := 900) (n := 60) (by decide +kernel)
def kw148 : Kn Tryz.prog := ⟨69, [lw41, vi 13], .tup [.agg [vi 10, vs ⟨#[112, 120]⟩, vi 1000], vi 16], tw148⟩
theorem tw149 : PCall Tryz.prog 68 [lw41, vi 13] (.tup [vi 13, vb false]) := ca_known (x := xtK []) (l := tabE) (fl := flatE) (wk := walkE) (lim := 900) (n := 60) (by decide +kernel)
def kw149 : Kn Tryz.prog := ⟨68, [lw41, vi 13], .tup [vi 13, vb false], tw149⟩
end Go.Proofs.YtilinnmancfjgaaGreatDoor
