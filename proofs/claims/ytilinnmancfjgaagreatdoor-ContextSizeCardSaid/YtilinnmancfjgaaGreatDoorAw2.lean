/- What the law's own example gives, run by the kernel in stages. -/
import Derived.Test.YtilinnmancfjgaaGreatDoorAw1
namespace Go.Proofs.YtilinnmancfjgaaGreatDoor
open Go.Sx
set_option maxRecDepth 100000
theorem tw25 : PCall Tryz.prog 36 [vi 5, lw0] (vb false) := ca_known (x := xtK []) (l := tabE) (fl := flatE) (wk := walkE) (lim := 900) (n := 60) (by decide +kernel)
def kw25 : Kn Tryz.prog := ⟨36, [vi 5, lw0], vb false, tw25⟩
theorem tw26 : PCall Tryz.prog 36 [vi 5, lw1] (vb false) := ca_known (x := xtK []) (l := tabE) (fl := flatE) (wk := walkE) (lim := 900) (n := 60) (by decide +kernel)
def kw26 : Kn Tryz.prog := ⟨36, [vi 5, lw1], vb false, tw26⟩
theorem tw27 : PCall Tryz.prog 19 [lw3, .agg [vi 1, vb false, vb false, vb false, vs ⟨#[]⟩, vi 0], vi (-1), vi 5] (lw4) := ca_known (x := xtK [kw0, kw1, kw2, kw4, kw5, kw7, kw8, kw10, kw11, kw13, kw14, kw16, kw17, kw19, kw20, kw22, kw23, kw25, kw26]) (l := tabE) (fl := flatE) (wk := walkE) (lim := 900) (n := 60) (by decide +kernel)
def kw27 : Kn Tryz.prog := ⟨19, [lw3, .agg [vi 1, vb false, vb false, vb false, vs ⟨#[]⟩, vi 0], vi (-1), vi 5], lw4, tw27⟩
theorem tw28 : PCall Tryz.prog 36 [vi 4, lw0] (vb false) := ca_known (x := xtK []) (l := tabE) (fl := flatE) (wk := walkE) (lim := 900) (n := 60) (by decide +kernel)
def kw28 : Kn Tryz.prog := ⟨36, [vi 4, lw0], vb false, tw28⟩
theorem tw29 : PCall Tryz.prog 36 [vi 4, lw1] (vb false) := ca_known (x := xtK []) (l := tabE) (fl := flatE) (wk := walkE) (lim := 900) (n := 60) (by decide +kernel)
def kw29 : Kn Tryz.prog := ⟨36, [vi 4, lw1], vb false, tw29⟩
theorem tw30 : PCall Tryz.prog 19 [lw3, .agg [vi 1, vb false, vb false, vb false, vs ⟨#[]⟩, vi 0], vi (-1), vi 4] (lw4) := ca_known (x := xtK [kw0, kw1, kw2, kw4, kw5, kw7, kw8, kw10, kw11, kw13, kw14, kw16, kw17, kw19, kw20, kw22, kw23, kw25, kw26, kw28, kw29]) (l := tabE) (fl := flatE) (wk := walkE) (lim := 900) (n := 60) (by decide +kernel)
def kw30 : Kn Tryz.prog := ⟨19, [lw3, .agg [vi 1, vb false, vb false, vb false, vs ⟨#[]⟩, vi 0], vi (-1), vi 4], lw4, tw30⟩
theorem tw31 : PCall Tryz.prog 36 [vi 3, lw0] (vb false) := ca_known (x := xtK []) (l := tabE) (fl := flatE) (wk := walkE) (lim := 900) (n := 60) (by decide +kernel)
def kw31 : Kn Tryz.prog := ⟨36, [vi 3, lw0], vb false, tw31⟩
theorem tw32 : PCall Tryz.prog 36 [vi 3, lw1] (vb false) := ca_known (x := xtK []) (l := tabE) (fl := flatE) (wk := walkE) (lim := 900) (n := 60) (by decide +kernel)
def kw32 : Kn Tryz.prog := ⟨36, [vi 3, lw1], vb false, tw32⟩
theorem tw33 : PCall Tryz.prog 19 [lw3, .agg [vi 1, vb false, vb false, vb false, vs ⟨#[]⟩, vi 0], vi (-1), vi 3] (lw4) := ca_known (x := xtK [kw0, kw1, kw2, kw4, kw5, kw7, kw8, kw10, kw11, kw13, kw14, kw16, kw17, kw19, kw20, kw22, kw23, kw25, kw26, kw28, kw29, kw31, kw32]) (l := tabE) (fl := flatE) (wk := walkE) (lim := 900) (n := 60) (by decide +kernel)
def kw33 : Kn Tryz.prog := ⟨19, [lw3, .agg [vi 1, vb false, vb false, vb false, vs ⟨#[]⟩, vi 0], vi (-1), vi 3], lw4, tw33⟩
theorem tw34 : PCall Tryz.prog 36 [vi 2, lw0] (vb false) := ca_known (x := xtK []) (l := tabE) (fl := flatE) (wk := walkE) (lim := 900) (n := 60) (by decide +kernel)
def kw34 : Kn Tryz.prog := ⟨36, [vi 2, lw0], vb false, tw34⟩
theorem tw35 : PCall Tryz.prog 36 [vi 2, lw1] (vb false) := ca_known (x := xtK []) (l := tabE) (fl := flatE) (wk := walkE) (lim := 900) (n := 60) (by decide +kernel)
def kw35 : Kn Tryz.prog := ⟨36, [vi 2, lw1], vb false, tw35⟩
theorem tw36 : PCall Tryz.prog 19 [lw3, .agg [vi 1, vb false, vb false, vb false, vs ⟨#[]⟩, vi 0], vi (-1), vi 2] (lw4) := ca_known (x := xtK [kw0, kw1, kw2, kw4, kw5, kw7, kw8, kw10, kw11, kw13, kw14, kw16, kw17, kw19, kw20, kw22, kw23, kw25, kw26, kw28, kw29, kw31, kw32, kw34, kw35]) (l := tabE) (fl := flatE) (wk := walkE) (lim := 900) (n := 60) (by decide +kernel)
def kw36 : Kn Tryz.prog := ⟨19, [lw3, .agg [vi 1, vb false, vb false, vb false, vs ⟨#[]⟩, vi 0], vi (-1), vi 2], lw4, tw36⟩
theorem tw37 : PCall Tryz.prog 36 [vi 1, lw0] (vb false) := ca_known (x := xtK []) (l := tabE) (fl := flatE) (wk := walkE) (lim := 900) (n := 60) (by decide +kernel)
def kw37 : Kn Tryz.prog := ⟨36, [vi 1, lw0], vb false, tw37⟩
theorem tw38 : PCall Tryz.prog 36 [vi 1, lw1] (vb false) := ca_known (x := xtK []) (l := tabE) (fl := flatE) (wk := walkE) (lim := 900) (n := 60) (by decide +kernel)
def kw38 : Kn Tryz.prog := ⟨36, [vi 1, lw1], vb false, tw38⟩
theorem tw39 : PCall Tryz.prog 19 [lw3, .agg [vi 1, vb false, vb false, vb false, vs ⟨#[]⟩, vi 0], vi (-1), vi 1] (lw4) := ca_known (x := xtK [kw0, kw1, kw2, kw4, kw5, kw7, kw8, kw10, kw11, kw13, kw14, kw16, kw17, kw19, kw20, kw22, kw23, kw25, kw26, kw28, kw29, kw31, kw32, kw34, kw35, kw37, kw38]) (l := tabE) (fl := flatE) (wk := walkE) (lim := 900) (n := 60) (by decide +kernel)
def kw39 : Kn Tryz.prog := ⟨19, [lw3, .agg [vi 1, vb false, vb false, vb false, vs ⟨#[]⟩, vi 0], vi (-1), vi 1], lw4, tw39⟩
theorem tw40 : PCall Tryz.prog 36 [vi 0, lw0] (vb false) := ca_known (x := xtK []) (l := tabE) (fl := flatE) (wk := walkE) (lim := 900) (n := 60) (by decide +kernel)
def kw40 : Kn Tryz.prog := ⟨36, [vi 0, lw0], vb false, tw40⟩
theorem tw41 : PCall Tryz.prog 36 [vi 0, lw1] (vb false) := ca_known (x := xtK []) (l := tabE) (fl := flatE) (wk := walkE) (lim := 900) (n := 60) (by decide +kernel)
def kw41 : Kn Tryz.prog := ⟨36, [vi 0, lw1], vb false, tw41⟩
theorem tw42 : PCall Tryz.prog 19 [lw3, .agg [vi 1, vb false, vb false, vb false, vs ⟨#[]⟩, vi 0], vi (-1), vi 0] (lw4) := ca_known (x := xtK [kw0, kw1, kw2, kw4, kw5, kw7, kw8, kw10, kw11, kw13, kw14, kw16, kw17, kw19, kw20, kw22, kw23, kw25, kw26, kw28, kw29, kw31, kw32, kw34, kw35, kw37, kw38, kw40, kw41]) (l := tabE) (fl := flatE) (wk := walkE) (lim := 900) (n := 60) (by decide +kernel)
def kw42 : Kn Tryz.prog := ⟨19, [lw3, .agg [vi 1, vb false, vb false, vb false, vs ⟨#[]⟩, vi 0], vi (-1), vi 0], lw4, tw42⟩
def lw7 : V := .tup [.agg [vi 793700, vi 1122519, vi 48000, vi 48000, vi 48000, vi 48000, vnil, vnil, vnil, vs ⟨#[114, 101, 100]⟩, vi 16000], vi 0]
theorem tw43 : PCall Tryz.prog 8 [lw3, .agg [vi 1, vb false, vb false, vb false, vs ⟨#[]⟩, vi 0]] (lw7) := ca_known (x := xtK [kw3, kw6, kw9, kw12, kw15, kw18, kw21, kw24, kw27, kw30, kw33, kw36, kw39, kw42]) (l := tabE) (fl := flatE) (wk := walkE) (lim := 900) (n := 60) (by decide +kernel)
def kw43 : Kn Tryz.prog := ⟨8, [lw3, .agg [vi 1, vb false, vb false, vb false, vs ⟨#[]⟩, vi 0]], lw7, tw43⟩
def lw8 : V := .tup [.agg [vb true, .slc 5 [[vi 1, vs ⟨#[120]⟩, vs ⟨#[]⟩, vi 0, vi 0]], vs ⟨#[114, 101, 100]⟩, vi 16000, vi (-1)], vi 0]
theorem tw44 : PCall Tryz.prog 10 [lw3, .agg [vi 1, vb false, vb false, vb false, vs ⟨#[]⟩, vi 0], vi 1] (lw8) := ca_known (x := xtK [kw3, kw6, kw9, kw12, kw15, kw18, kw21, kw24, kw27, kw30, kw33, kw36, kw39, kw42, kw43]) (l := tabE) (fl := flatE) (wk := walkE) (lim := 900) (n := 60) (by decide +kernel)
def kw44 : Kn Tryz.prog := ⟨10, [lw3, .agg [vi 1, vb false, vb false, vb false, vs ⟨#[]⟩, vi 0], vi 1], lw8, tw44⟩
theorem tw45 : PCall Tryz.prog 46 [.slc 3 []] (.tup [vnil, vi 0]) := ca_known (x := xtK []) (l := tabE) (fl := flatE) (wk := walkE) (lim := 900) (n := 60) (by decide +kernel)
def kw45 : Kn Tryz.prog := ⟨46, [.slc 3 []], .tup [vnil, vi 0], tw45⟩
theorem tw46 : PCall Tryz.prog 50 [.slc 3 []] (vb true) := ca_known (x := xtK [kw45]) (l := tabE) (fl := flatE) (wk := walkE) (lim := 900) (n := 60) (by decide +kernel)
def kw46 : Kn Tryz.prog := ⟨50, [.slc 3 []], vb true, tw46⟩
theorem tw47 : PCall Tryz.prog 46 [.slc 3 [[vi 6, vs ⟨#[120]⟩, vi 0]]] (.tup [.slc 1 [[vi (-1)]], vi 0]) := ca_known (x := xtK []) (l := tabE) (fl := flatE) (wk := walkE) (lim := 900) (n := 60) (by decide +kernel)
def kw47 : Kn Tryz.prog := ⟨46, [.slc 3 [[vi 6, vs ⟨#[120]⟩, vi 0]]], .tup [.slc 1 [[vi (-1)]], vi 0], tw47⟩
theorem tw48 : PCall Tryz.prog 50 [.slc 3 [[vi 6, vs ⟨#[120]⟩, vi 0]]] (vb true) := ca_known (x := xtK [kw45, kw47]) (l := tabE) (fl := flatE) (wk := walkE) (lim := 900) (n := 60) (by decide +kernel)
def kw48 : Kn Tryz.prog := ⟨50, [.slc 3 [[vi 6, vs ⟨#[120]⟩, vi 0]]], vb true, tw48⟩
def lw9 : V := .slc 3 [[vi 4, vs ⟨#[112, 97, 103, 101]⟩, vi 0], [vi 12, vs ⟨#[123]⟩, vi 0], [vi 2, vs ⟨#[99, 111, 108, 111, 114]⟩, vi 0], [vi 14, vs ⟨#[]⟩, vi 0], [vi 2, vs ⟨#[114, 101, 100]⟩, vi 0], [vi 15, vs ⟨#[]⟩, vi 0], [vi 4, vs ⟨#[116, 111, 112, 45, 108, 101, 102, 116]⟩, vi 0], [vi 12, vs ⟨#[123]⟩, vi 0], [vi 2, vs ⟨#[99, 111, 110, 116, 101, 110, 116]⟩, vi 0], [vi 14, vs ⟨#[]⟩, vi 0], [vi 6, vs ⟨#[120]⟩, vi 0], [vi 13, vs ⟨#[125]⟩, vi 0], [vi 13, vs ⟨#[125]⟩, vi 0]]
def lw10 : V := .tup [.agg [vs ⟨#[99, 111, 110, 116, 101, 110, 116]⟩, .slc 3 [[vi 6, vs ⟨#[120]⟩, vi 0]], vb false], vb true]
theorem tw49 : PCall Tryz.prog 74 [lw9, vi 8, vi 11] (lw10) := ca_known (x := xtK [kw46, kw48]) (l := tabE) (fl := flatE) (wk := walkE) (lim := 900) (n := 60) (by decide +kernel)
def kw49 : Kn Tryz.prog := ⟨74, [lw9, vi 8, vi 11], lw10, tw49⟩
end Go.Proofs.YtilinnmancfjgaaGreatDoor
