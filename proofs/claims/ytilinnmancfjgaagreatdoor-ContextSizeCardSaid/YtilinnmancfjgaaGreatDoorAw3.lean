/- What the law's own example gives, run by the kernel in stages. -/
import Derived.Test.YtilinnmancfjgaaGreatDoorAw2
namespace Go.Proofs.YtilinnmancfjgaaGreatDoor
open Go.Sx
set_option maxRecDepth 100000
def lw11 : V := .slc 1 [[vi (-1)], [vi 12], [vi (-1)], [vi (-1)], [vi (-1)], [vi (-1)], [vi (-1)], [vi 11], [vi (-1)], [vi (-1)], [vi (-1)], [vi (-1)], [vi (-1)]]
def lw12 : V := .tup [.slc 3 [[vs ⟨#[99, 111, 110, 116, 101, 110, 116]⟩, .slc 3 [[vi 6, vs ⟨#[120]⟩, vi 0]], vb false]], vnil]
theorem tw50 : PCall Tryz.prog 49 [lw9, lw11, vi 8, vi 11, vb false] (lw12) := ca_known (x := xtK [kw49]) (l := tabE) (fl := flatE) (wk := walkE) (lim := 900) (n := 60) (by decide +kernel)
def kw50 : Kn Tryz.prog := ⟨49, [lw9, lw11, vi 8, vi 11, vb false], lw12, tw50⟩
theorem tw51 : PCall Tryz.prog 46 [.slc 3 [[vi 2, vs ⟨#[114, 101, 100]⟩, vi 0]]] (.tup [.slc 1 [[vi (-1)]], vi 0]) := ca_known (x := xtK []) (l := tabE) (fl := flatE) (wk := walkE) (lim := 900) (n := 60) (by decide +kernel)
def kw51 : Kn Tryz.prog := ⟨46, [.slc 3 [[vi 2, vs ⟨#[114, 101, 100]⟩, vi 0]]], .tup [.slc 1 [[vi (-1)]], vi 0], tw51⟩
theorem tw52 : PCall Tryz.prog 50 [.slc 3 [[vi 2, vs ⟨#[114, 101, 100]⟩, vi 0]]] (vb true) := ca_known (x := xtK [kw45, kw47, kw51]) (l := tabE) (fl := flatE) (wk := walkE) (lim := 900) (n := 60) (by decide +kernel)
def kw52 : Kn Tryz.prog := ⟨50, [.slc 3 [[vi 2, vs ⟨#[114, 101, 100]⟩, vi 0]]], vb true, tw52⟩
def lw13 : V := .tup [.agg [vs ⟨#[99, 111, 108, 111, 114]⟩, .slc 3 [[vi 2, vs ⟨#[114, 101, 100]⟩, vi 0]], vb false], vb true]
theorem tw53 : PCall Tryz.prog 74 [lw9, vi 2, vi 5] (lw13) := ca_known (x := xtK [kw46, kw48, kw52]) (l := tabE) (fl := flatE) (wk := walkE) (lim := 900) (n := 60) (by decide +kernel)
def kw53 : Kn Tryz.prog := ⟨74, [lw9, vi 2, vi 5], lw13, tw53⟩
def lw14 : V := .tup [.slc 3 [[vs ⟨#[99, 111, 108, 111, 114]⟩, .slc 3 [[vi 2, vs ⟨#[114, 101, 100]⟩, vi 0]], vb false]], .slc 2 [[vs ⟨#[116, 111, 112, 45, 108, 101, 102, 116]⟩, .slc 3 [[vs ⟨#[99, 111, 110, 116, 101, 110, 116]⟩, .slc 3 [[vi 6, vs ⟨#[120]⟩, vi 0]], vb false]]]]]
theorem tw54 : PCall Tryz.prog 49 [lw9, lw11, vi 2, vi 12, vb true] (lw14) := ca_known (x := xtK [kw49, kw50, kw53]) (l := tabE) (fl := flatE) (wk := walkE) (lim := 900) (n := 60) (by decide +kernel)
def kw54 : Kn Tryz.prog := ⟨49, [lw9, lw11, vi 2, vi 12, vb true], lw14, tw54⟩
def lw15 : V := .tup [.slc 1 [[vi (-1)], [vi 12], [vi (-1)], [vi (-1)], [vi (-1)], [vi (-1)], [vi (-1)], [vi 11], [vi (-1)], [vi (-1)], [vi (-1)], [vi (-1)], [vi (-1)]], vi 0]
theorem tw55 : PCall Tryz.prog 46 [lw9] (lw15) := ca_known (x := xtK []) (l := tabE) (fl := flatE) (wk := walkE) (lim := 900) (n := 60) (by decide +kernel)
def kw55 : Kn Tryz.prog := ⟨46, [lw9], lw15, tw55⟩
def lw16 : V := .slc 1 [[vi 64], [vi 112], [vi 97], [vi 103], [vi 101], [vi 123], [vi 99], [vi 111], [vi 108], [vi 111], [vi 114], [vi 58], [vi 114], [vi 101], [vi 100], [vi 59], [vi 64], [vi 116], [vi 111], [vi 112], [vi 45], [vi 108], [vi 101], [vi 102], [vi 116], [vi 123], [vi 99], [vi 111], [vi 110], [vi 116], [vi 101], [vi 110], [vi 116], [vi 58], [vi 39], [vi 120], [vi 39], [vi 125], [vi 125]]
theorem tw56 : PCall Tryz.prog 69 [lw16, vi 38] (.tup [.agg [vi 13, vs ⟨#[125]⟩, vi 0], vi 39]) := ca_known (x := xtK []) (l := tabE) (fl := flatE) (wk := walkE) (lim := 900) (n := 60) (by decide +kernel)
def kw56 : Kn Tryz.prog := ⟨69, [lw16, vi 38], .tup [.agg [vi 13, vs ⟨#[125]⟩, vi 0], vi 39], tw56⟩
theorem tw57 : PCall Tryz.prog 68 [lw16, vi 38] (.tup [vi 38, vb false]) := ca_known (x := xtK []) (l := tabE) (fl := flatE) (wk := walkE) (lim := 900) (n := 60) (by decide +kernel)
def kw57 : Kn Tryz.prog := ⟨68, [lw16, vi 38], .tup [vi 38, vb false], tw57⟩
theorem tw58 : PCall Tryz.prog 69 [lw16, vi 37] (.tup [.agg [vi 13, vs ⟨#[125]⟩, vi 0], vi 38]) := ca_known (x := xtK []) (l := tabE) (fl := flatE) (wk := walkE) (lim := 900) (n := 60) (by decide +kernel)
def kw58 : Kn Tryz.prog := ⟨69, [lw16, vi 37], .tup [.agg [vi 13, vs ⟨#[125]⟩, vi 0], vi 38], tw58⟩
theorem tw59 : PCall Tryz.prog 68 [lw16, vi 37] (.tup [vi 37, vb false]) := ca_known (x := xtK []) (l := tabE) (fl := flatE) (wk := walkE) (lim := 900) (n := 60) (by decide +kernel)
def kw59 : Kn Tryz.prog := ⟨68, [lw16, vi 37], .tup [vi 37, vb false], tw59⟩
theorem tw60 : PCall Tryz.prog 69 [lw16, vi 34] (.tup [.agg [vi 6, vs ⟨#[120]⟩, vi 0], vi 37]) := ca_known (x := xtK []) (l := tabE) (fl := flatE) (wk := walkE) (lim := 900) (n := 60) (by decide +kernel)
def kw60 : Kn Tryz.prog := ⟨69, [lw16, vi 34], .tup [.agg [vi 6, vs ⟨#[120]⟩, vi 0], vi 37], tw60⟩
theorem tw61 : PCall Tryz.prog 68 [lw16, vi 34] (.tup [vi 34, vb false]) := ca_known (x := xtK []) (l := tabE) (fl := flatE) (wk := walkE) (lim := 900) (n := 60) (by decide +kernel)
def kw61 : Kn Tryz.prog := ⟨68, [lw16, vi 34], .tup [vi 34, vb false], tw61⟩
theorem tw62 : PCall Tryz.prog 69 [lw16, vi 33] (.tup [.agg [vi 14, vs ⟨#[]⟩, vi 0], vi 34]) := ca_known (x := xtK []) (l := tabE) (fl := flatE) (wk := walkE) (lim := 900) (n := 60) (by decide +kernel)
def kw62 : Kn Tryz.prog := ⟨69, [lw16, vi 33], .tup [.agg [vi 14, vs ⟨#[]⟩, vi 0], vi 34], tw62⟩
theorem tw63 : PCall Tryz.prog 68 [lw16, vi 33] (.tup [vi 33, vb false]) := ca_known (x := xtK []) (l := tabE) (fl := flatE) (wk := walkE) (lim := 900) (n := 60) (by decide +kernel)
def kw63 : Kn Tryz.prog := ⟨68, [lw16, vi 33], .tup [vi 33, vb false], tw63⟩
def lw17 : V := .tup [.agg [vi 2, vs ⟨#[99, 111, 110, 116, 101, 110, 116]⟩, vi 0], vi 33]
theorem tw64 : PCall Tryz.prog 69 [lw16, vi 26] (lw17) := ca_known (x := xtK []) (l := tabE) (fl := flatE) (wk := walkE) (lim := 900) (n := 60) (by decide +kernel)
def kw64 : Kn Tryz.prog := ⟨69, [lw16, vi 26], lw17, tw64⟩
theorem tw65 : PCall Tryz.prog 68 [lw16, vi 26] (.tup [vi 26, vb false]) := ca_known (x := xtK []) (l := tabE) (fl := flatE) (wk := walkE) (lim := 900) (n := 60) (by decide +kernel)
def kw65 : Kn Tryz.prog := ⟨68, [lw16, vi 26], .tup [vi 26, vb false], tw65⟩
theorem tw66 : PCall Tryz.prog 69 [lw16, vi 25] (.tup [.agg [vi 12, vs ⟨#[123]⟩, vi 0], vi 26]) := ca_known (x := xtK []) (l := tabE) (fl := flatE) (wk := walkE) (lim := 900) (n := 60) (by decide +kernel)
def kw66 : Kn Tryz.prog := ⟨69, [lw16, vi 25], .tup [.agg [vi 12, vs ⟨#[123]⟩, vi 0], vi 26], tw66⟩
theorem tw67 : PCall Tryz.prog 68 [lw16, vi 25] (.tup [vi 25, vb false]) := ca_known (x := xtK []) (l := tabE) (fl := flatE) (wk := walkE) (lim := 900) (n := 60) (by decide +kernel)
def kw67 : Kn Tryz.prog := ⟨68, [lw16, vi 25], .tup [vi 25, vb false], tw67⟩
def lw18 : V := .tup [.agg [vi 4, vs ⟨#[116, 111, 112, 45, 108, 101, 102, 116]⟩, vi 0], vi 25]
theorem tw68 : PCall Tryz.prog 69 [lw16, vi 16] (lw18) := ca_known (x := xtK []) (l := tabE) (fl := flatE) (wk := walkE) (lim := 900) (n := 60) (by decide +kernel)
def kw68 : Kn Tryz.prog := ⟨69, [lw16, vi 16], lw18, tw68⟩
theorem tw69 : PCall Tryz.prog 68 [lw16, vi 16] (.tup [vi 16, vb false]) := ca_known (x := xtK []) (l := tabE) (fl := flatE) (wk := walkE) (lim := 900) (n := 60) (by decide +kernel)
def kw69 : Kn Tryz.prog := ⟨68, [lw16, vi 16], .tup [vi 16, vb false], tw69⟩
theorem tw70 : PCall Tryz.prog 69 [lw16, vi 15] (.tup [.agg [vi 15, vs ⟨#[]⟩, vi 0], vi 16]) := ca_known (x := xtK []) (l := tabE) (fl := flatE) (wk := walkE) (lim := 900) (n := 60) (by decide +kernel)
def kw70 : Kn Tryz.prog := ⟨69, [lw16, vi 15], .tup [.agg [vi 15, vs ⟨#[]⟩, vi 0], vi 16], tw70⟩
theorem tw71 : PCall Tryz.prog 68 [lw16, vi 15] (.tup [vi 15, vb false]) := ca_known (x := xtK []) (l := tabE) (fl := flatE) (wk := walkE) (lim := 900) (n := 60) (by decide +kernel)
def kw71 : Kn Tryz.prog := ⟨68, [lw16, vi 15], .tup [vi 15, vb false], tw71⟩
theorem tw72 : PCall Tryz.prog 69 [lw16, vi 12] (.tup [.agg [vi 2, vs ⟨#[114, 101, 100]⟩, vi 0], vi 15]) := ca_known (x := xtK []) (l := tabE) (fl := flatE) (wk := walkE) (lim := 900) (n := 60) (by decide +kernel)
def kw72 : Kn Tryz.prog := ⟨69, [lw16, vi 12], .tup [.agg [vi 2, vs ⟨#[114, 101, 100]⟩, vi 0], vi 15], tw72⟩
theorem tw73 : PCall Tryz.prog 68 [lw16, vi 12] (.tup [vi 12, vb false]) := ca_known (x := xtK []) (l := tabE) (fl := flatE) (wk := walkE) (lim := 900) (n := 60) (by decide +kernel)
def kw73 : Kn Tryz.prog := ⟨68, [lw16, vi 12], .tup [vi 12, vb false], tw73⟩
theorem tw74 : PCall Tryz.prog 69 [lw16, vi 11] (.tup [.agg [vi 14, vs ⟨#[]⟩, vi 0], vi 12]) := ca_known (x := xtK []) (l := tabE) (fl := flatE) (wk := walkE) (lim := 900) (n := 60) (by decide +kernel)
def kw74 : Kn Tryz.prog := ⟨69, [lw16, vi 11], .tup [.agg [vi 14, vs ⟨#[]⟩, vi 0], vi 12], tw74⟩
end Go.Proofs.YtilinnmancfjgaaGreatDoor
