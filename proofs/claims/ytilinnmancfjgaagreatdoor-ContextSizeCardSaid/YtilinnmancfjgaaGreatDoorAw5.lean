/- What the law's own example gives, run by the kernel in stages. -/
import Derived.Test.YtilinnmancfjgaaGreatDoorAw4
namespace Go.Proofs.YtilinnmancfjgaaGreatDoor
open Go.Sx
set_option maxRecDepth 100000
theorem tw100 : PCall Tryz.prog 36 [vi 5, lw25] (vb false) := ca_known (x := xtK []) (l := tabE) (fl := flatE) (wk := walkE) (lim := 900) (n := 60) (by decide +kernel)
def kw100 : Kn Tryz.prog := ⟨36, [vi 5, lw25], vb false, tw100⟩
theorem tw101 : PCall Tryz.prog 36 [vi 5, lw27] (vb false) := ca_known (x := xtK []) (l := tabE) (fl := flatE) (wk := walkE) (lim := 900) (n := 60) (by decide +kernel)
def kw101 : Kn Tryz.prog := ⟨36, [vi 5, lw27], vb false, tw101⟩
theorem tw102 : PCall Tryz.prog 19 [lw29, .agg [vi 2, vb false, vb false, vb false, vs ⟨#[]⟩, vi 0], vi (-1), vi 5] (lw4) := ca_known (x := xtK [kw0, kw1, kw2, kw4, kw5, kw7, kw8, kw10, kw11, kw13, kw14, kw16, kw17, kw19, kw20, kw22, kw23, kw25, kw26, kw28, kw29, kw31, kw32, kw34, kw35, kw37, kw38, kw40, kw41, kw86, kw87, kw88, kw89, kw91, kw92, kw94, kw95, kw97, kw98, kw100, kw101]) (l := tabE) (fl := flatE) (wk := walkE) (lim := 900) (n := 60) (by decide +kernel)
def kw102 : Kn Tryz.prog := ⟨19, [lw29, .agg [vi 2, vb false, vb false, vb false, vs ⟨#[]⟩, vi 0], vi (-1), vi 5], lw4, tw102⟩
theorem tw103 : PCall Tryz.prog 36 [vi 4, lw25] (vb false) := ca_known (x := xtK []) (l := tabE) (fl := flatE) (wk := walkE) (lim := 900) (n := 60) (by decide +kernel)
def kw103 : Kn Tryz.prog := ⟨36, [vi 4, lw25], vb false, tw103⟩
theorem tw104 : PCall Tryz.prog 36 [vi 4, lw27] (vb true) := ca_known (x := xtK []) (l := tabE) (fl := flatE) (wk := walkE) (lim := 900) (n := 60) (by decide +kernel)
def kw104 : Kn Tryz.prog := ⟨36, [vi 4, lw27], vb true, tw104⟩
def lw30 : V := .tup [.agg [vs ⟨#[109, 97, 114, 103, 105, 110]⟩, .slc 3 [[vi 10, vs ⟨#[112, 120]⟩, vi 1000]], vb false], .agg [vi 0, vi 0, vi 0, vi 0, vi 0], vb true]
theorem tw105 : PCall Tryz.prog 19 [lw29, .agg [vi 2, vb false, vb false, vb false, vs ⟨#[]⟩, vi 0], vi (-1), vi 4] (lw30) := ca_known (x := xtK [kw0, kw1, kw2, kw4, kw5, kw7, kw8, kw10, kw11, kw13, kw14, kw16, kw17, kw19, kw20, kw22, kw23, kw25, kw26, kw28, kw29, kw31, kw32, kw34, kw35, kw37, kw38, kw40, kw41, kw86, kw87, kw88, kw89, kw91, kw92, kw94, kw95, kw97, kw98, kw100, kw101, kw103, kw104]) (l := tabE) (fl := flatE) (wk := walkE) (lim := 900) (n := 60) (by decide +kernel)
def kw105 : Kn Tryz.prog := ⟨19, [lw29, .agg [vi 2, vb false, vb false, vb false, vs ⟨#[]⟩, vi 0], vi (-1), vi 4], lw30, tw105⟩
theorem tw106 : PCall Tryz.prog 36 [vi 3, lw25] (vb false) := ca_known (x := xtK []) (l := tabE) (fl := flatE) (wk := walkE) (lim := 900) (n := 60) (by decide +kernel)
def kw106 : Kn Tryz.prog := ⟨36, [vi 3, lw25], vb false, tw106⟩
theorem tw107 : PCall Tryz.prog 36 [vi 3, lw27] (vb true) := ca_known (x := xtK []) (l := tabE) (fl := flatE) (wk := walkE) (lim := 900) (n := 60) (by decide +kernel)
def kw107 : Kn Tryz.prog := ⟨36, [vi 3, lw27], vb true, tw107⟩
theorem tw108 : PCall Tryz.prog 19 [lw29, .agg [vi 2, vb false, vb false, vb false, vs ⟨#[]⟩, vi 0], vi (-1), vi 3] (lw30) := ca_known (x := xtK [kw0, kw1, kw2, kw4, kw5, kw7, kw8, kw10, kw11, kw13, kw14, kw16, kw17, kw19, kw20, kw22, kw23, kw25, kw26, kw28, kw29, kw31, kw32, kw34, kw35, kw37, kw38, kw40, kw41, kw86, kw87, kw88, kw89, kw91, kw92, kw94, kw95, kw97, kw98, kw100, kw101, kw103, kw104, kw106, kw107]) (l := tabE) (fl := flatE) (wk := walkE) (lim := 900) (n := 60) (by decide +kernel)
def kw108 : Kn Tryz.prog := ⟨19, [lw29, .agg [vi 2, vb false, vb false, vb false, vs ⟨#[]⟩, vi 0], vi (-1), vi 3], lw30, tw108⟩
theorem tw109 : PCall Tryz.prog 36 [vi 2, lw25] (vb false) := ca_known (x := xtK []) (l := tabE) (fl := flatE) (wk := walkE) (lim := 900) (n := 60) (by decide +kernel)
def kw109 : Kn Tryz.prog := ⟨36, [vi 2, lw25], vb false, tw109⟩
theorem tw110 : PCall Tryz.prog 36 [vi 2, lw27] (vb true) := ca_known (x := xtK []) (l := tabE) (fl := flatE) (wk := walkE) (lim := 900) (n := 60) (by decide +kernel)
def kw110 : Kn Tryz.prog := ⟨36, [vi 2, lw27], vb true, tw110⟩
theorem tw111 : PCall Tryz.prog 19 [lw29, .agg [vi 2, vb false, vb false, vb false, vs ⟨#[]⟩, vi 0], vi (-1), vi 2] (lw30) := ca_known (x := xtK [kw0, kw1, kw2, kw4, kw5, kw7, kw8, kw10, kw11, kw13, kw14, kw16, kw17, kw19, kw20, kw22, kw23, kw25, kw26, kw28, kw29, kw31, kw32, kw34, kw35, kw37, kw38, kw40, kw41, kw86, kw87, kw88, kw89, kw91, kw92, kw94, kw95, kw97, kw98, kw100, kw101, kw103, kw104, kw106, kw107, kw109, kw110]) (l := tabE) (fl := flatE) (wk := walkE) (lim := 900) (n := 60) (by decide +kernel)
def kw111 : Kn Tryz.prog := ⟨19, [lw29, .agg [vi 2, vb false, vb false, vb false, vs ⟨#[]⟩, vi 0], vi (-1), vi 2], lw30, tw111⟩
theorem tw112 : PCall Tryz.prog 36 [vi 1, lw25] (vb true) := ca_known (x := xtK []) (l := tabE) (fl := flatE) (wk := walkE) (lim := 900) (n := 60) (by decide +kernel)
def kw112 : Kn Tryz.prog := ⟨36, [vi 1, lw25], vb true, tw112⟩
theorem tw113 : PCall Tryz.prog 36 [vi 1, lw27] (vb true) := ca_known (x := xtK []) (l := tabE) (fl := flatE) (wk := walkE) (lim := 900) (n := 60) (by decide +kernel)
def kw113 : Kn Tryz.prog := ⟨36, [vi 1, lw27], vb true, tw113⟩
def lw31 : V := .tup [.agg [vs ⟨#[109, 97, 114, 103, 105, 110, 45, 116, 111, 112]⟩, .slc 3 [[vi 10, vs ⟨#[112, 120]⟩, vi 2000]], vb false], .agg [vi 0, vi 0, vi 0, vi 1, vi 1], vb true]
theorem tw114 : PCall Tryz.prog 19 [lw29, .agg [vi 2, vb false, vb false, vb false, vs ⟨#[]⟩, vi 0], vi (-1), vi 1] (lw31) := ca_known (x := xtK [kw0, kw1, kw2, kw4, kw5, kw7, kw8, kw10, kw11, kw13, kw14, kw16, kw17, kw19, kw20, kw22, kw23, kw25, kw26, kw28, kw29, kw31, kw32, kw34, kw35, kw37, kw38, kw40, kw41, kw86, kw87, kw88, kw89, kw91, kw92, kw94, kw95, kw97, kw98, kw100, kw101, kw103, kw104, kw106, kw107, kw109, kw110, kw112, kw113]) (l := tabE) (fl := flatE) (wk := walkE) (lim := 900) (n := 60) (by decide +kernel)
def kw114 : Kn Tryz.prog := ⟨19, [lw29, .agg [vi 2, vb false, vb false, vb false, vs ⟨#[]⟩, vi 0], vi (-1), vi 1], lw31, tw114⟩
theorem tw115 : PCall Tryz.prog 36 [vi 0, lw25] (vb false) := ca_known (x := xtK []) (l := tabE) (fl := flatE) (wk := walkE) (lim := 900) (n := 60) (by decide +kernel)
def kw115 : Kn Tryz.prog := ⟨36, [vi 0, lw25], vb false, tw115⟩
theorem tw116 : PCall Tryz.prog 36 [vi 0, lw27] (vb false) := ca_known (x := xtK []) (l := tabE) (fl := flatE) (wk := walkE) (lim := 900) (n := 60) (by decide +kernel)
def kw116 : Kn Tryz.prog := ⟨36, [vi 0, lw27], vb false, tw116⟩
theorem tw117 : PCall Tryz.prog 19 [lw29, .agg [vi 2, vb false, vb false, vb false, vs ⟨#[]⟩, vi 0], vi (-1), vi 0] (lw4) := ca_known (x := xtK [kw0, kw1, kw2, kw4, kw5, kw7, kw8, kw10, kw11, kw13, kw14, kw16, kw17, kw19, kw20, kw22, kw23, kw25, kw26, kw28, kw29, kw31, kw32, kw34, kw35, kw37, kw38, kw40, kw41, kw86, kw87, kw88, kw89, kw91, kw92, kw94, kw95, kw97, kw98, kw100, kw101, kw103, kw104, kw106, kw107, kw109, kw110, kw112, kw113, kw115, kw116]) (l := tabE) (fl := flatE) (wk := walkE) (lim := 900) (n := 60) (by decide +kernel)
def kw117 : Kn Tryz.prog := ⟨19, [lw29, .agg [vi 2, vb false, vb false, vb false, vs ⟨#[]⟩, vi 0], vi (-1), vi 0], lw4, tw117⟩
def lw32 : V := .tup [.agg [vi 793700, vi 1122519, vi 2000, vi 1000, vi 1000, vi 1000, vnil, vnil, vnil, vs ⟨#[98, 108, 97, 99, 107]⟩, vi 16000], vi 0]
theorem tw118 : PCall Tryz.prog 8 [lw29, .agg [vi 2, vb false, vb false, vb false, vs ⟨#[]⟩, vi 0]] (lw32) := ca_known (x := xtK [kw3, kw6, kw9, kw12, kw15, kw18, kw21, kw24, kw27, kw30, kw33, kw36, kw39, kw42, kw90, kw93, kw96, kw99, kw102, kw105, kw108, kw111, kw114, kw117]) (l := tabE) (fl := flatE) (wk := walkE) (lim := 900) (n := 60) (by decide +kernel)
def kw118 : Kn Tryz.prog := ⟨8, [lw29, .agg [vi 2, vb false, vb false, vb false, vs ⟨#[]⟩, vi 0]], lw32, tw118⟩
def lw33 : V := .slc 3 [[vi 14, vs ⟨#[]⟩, vi 0], [vi 2, vs ⟨#[108, 101, 102, 116]⟩, vi 0]]
theorem tw119 : PCall Tryz.prog 46 [lw33] (.tup [.slc 1 [[vi (-1)], [vi (-1)]], vi 0]) := ca_known (x := xtK []) (l := tabE) (fl := flatE) (wk := walkE) (lim := 900) (n := 60) (by decide +kernel)
def kw119 : Kn Tryz.prog := ⟨46, [lw33], .tup [.slc 1 [[vi (-1)], [vi (-1)]], vi 0], tw119⟩
theorem tw120 : PCall Tryz.prog 50 [lw33] (vb true) := ca_known (x := xtK [kw45, kw47, kw51, kw55, kw119]) (l := tabE) (fl := flatE) (wk := walkE) (lim := 900) (n := 60) (by decide +kernel)
def kw120 : Kn Tryz.prog := ⟨50, [lw33], vb true, tw120⟩
theorem tw121 : PCall Tryz.prog 46 [.slc 3 [[vi 10, vs ⟨#[112, 120]⟩, vi 2000]]] (.tup [.slc 1 [[vi (-1)]], vi 0]) := ca_known (x := xtK []) (l := tabE) (fl := flatE) (wk := walkE) (lim := 900) (n := 60) (by decide +kernel)
def kw121 : Kn Tryz.prog := ⟨46, [.slc 3 [[vi 10, vs ⟨#[112, 120]⟩, vi 2000]]], .tup [.slc 1 [[vi (-1)]], vi 0], tw121⟩
theorem tw122 : PCall Tryz.prog 50 [.slc 3 [[vi 10, vs ⟨#[112, 120]⟩, vi 2000]]] (vb true) := ca_known (x := xtK [kw45, kw47, kw51, kw55, kw119, kw121]) (l := tabE) (fl := flatE) (wk := walkE) (lim := 900) (n := 60) (by decide +kernel)
def kw122 : Kn Tryz.prog := ⟨50, [.slc 3 [[vi 10, vs ⟨#[112, 120]⟩, vi 2000]]], vb true, tw122⟩
def lw34 : V := .slc 3 [[vi 4, vs ⟨#[112, 97, 103, 101]⟩, vi 0], [vi 12, vs ⟨#[123]⟩, vi 0], [vi 2, vs ⟨#[109, 97, 114, 103, 105, 110]⟩, vi 0], [vi 14, vs ⟨#[]⟩, vi 0], [vi 10, vs ⟨#[112, 120]⟩, vi 1000], [vi 13, vs ⟨#[125]⟩, vi 0], [vi 1, vs ⟨#[]⟩, vi 0], [vi 4, vs ⟨#[112, 97, 103, 101]⟩, vi 0], [vi 1, vs ⟨#[]⟩, vi 0], [vi 14, vs ⟨#[]⟩, vi 0], [vi 2, vs ⟨#[108, 101, 102, 116]⟩, vi 0], [vi 12, vs ⟨#[123]⟩, vi 0], [vi 2, vs ⟨#[109, 97, 114, 103, 105, 110, 45, 116, 111, 112]⟩, vi 0], [vi 14, vs ⟨#[]⟩, vi 0], [vi 10, vs ⟨#[112, 120]⟩, vi 2000], [vi 13, vs ⟨#[125]⟩, vi 0]]
def lw35 : V := .tup [.agg [vs ⟨#[109, 97, 114, 103, 105, 110, 45, 116, 111, 112]⟩, .slc 3 [[vi 10, vs ⟨#[112, 120]⟩, vi 2000]], vb false], vb true]
theorem tw123 : PCall Tryz.prog 74 [lw34, vi 12, vi 15] (lw35) := ca_known (x := xtK [kw46, kw48, kw52, kw120, kw122]) (l := tabE) (fl := flatE) (wk := walkE) (lim := 900) (n := 60) (by decide +kernel)
def kw123 : Kn Tryz.prog := ⟨74, [lw34, vi 12, vi 15], lw35, tw123⟩
def lw36 : V := .slc 1 [[vi (-1)], [vi 5], [vi (-1)], [vi (-1)], [vi (-1)], [vi (-1)], [vi (-1)], [vi (-1)], [vi (-1)], [vi (-1)], [vi (-1)], [vi 15], [vi (-1)], [vi (-1)], [vi (-1)], [vi (-1)]]
def lw37 : V := .tup [.slc 3 [[vs ⟨#[109, 97, 114, 103, 105, 110, 45, 116, 111, 112]⟩, .slc 3 [[vi 10, vs ⟨#[112, 120]⟩, vi 2000]], vb false]], vnil]
theorem tw124 : PCall Tryz.prog 49 [lw34, lw36, vi 12, vi 15, vb true] (lw37) := ca_known (x := xtK [kw49, kw50, kw53, kw54, kw123]) (l := tabE) (fl := flatE) (wk := walkE) (lim := 900) (n := 60) (by decide +kernel)
def kw124 : Kn Tryz.prog := ⟨49, [lw34, lw36, vi 12, vi 15, vb true], lw37, tw124⟩
end Go.Proofs.YtilinnmancfjgaaGreatDoor
