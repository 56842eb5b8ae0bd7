/- What the law's own example gives, run by the kernel in stages. -/
import Derived.Test.YtilinnmancfjgaaGreatDoorAw3
namespace Go.Proofs.YtilinnmancfjgaaGreatDoor
open Go.Sx
set_option maxRecDepth 100000
theorem tw75 : PCall Tryz.prog 68 [lw16, vi 11] (.tup [vi 11, vb false]) := ca_known (x := xtK []) (l := tabE) (fl := flatE) (wk := walkE) (lim := 900) (n := 60) (by decide +kernel)
def kw75 : Kn Tryz.prog := ⟨68, [lw16, vi 11], .tup [vi 11, vb false], tw75⟩
def lw19 : V := .tup [.agg [vi 2, vs ⟨#[99, 111, 108, 111, 114]⟩, vi 0], vi 11]
theorem tw76 : PCall Tryz.prog 69 [lw16, vi 6] (lw19) := ca_known (x := xtK []) (l := tabE) (fl := flatE) (wk := walkE) (lim := 900) (n := 60) (by decide +kernel)
def kw76 : Kn Tryz.prog := ⟨69, [lw16, vi 6], lw19, tw76⟩
theorem tw77 : PCall Tryz.prog 68 [lw16, vi 6] (.tup [vi 6, vb false]) := ca_known (x := xtK []) (l := tabE) (fl := flatE) (wk := walkE) (lim := 900) (n := 60) (by decide +kernel)
def kw77 : Kn Tryz.prog := ⟨68, [lw16, vi 6], .tup [vi 6, vb false], tw77⟩
theorem tw78 : PCall Tryz.prog 69 [lw16, vi 5] (.tup [.agg [vi 12, vs ⟨#[123]⟩, vi 0], vi 6]) := ca_known (x := xtK []) (l := tabE) (fl := flatE) (wk := walkE) (lim := 900) (n := 60) (by decide +kernel)
def kw78 : Kn Tryz.prog := ⟨69, [lw16, vi 5], .tup [.agg [vi 12, vs ⟨#[123]⟩, vi 0], vi 6], tw78⟩
theorem tw79 : PCall Tryz.prog 68 [lw16, vi 5] (.tup [vi 5, vb false]) := ca_known (x := xtK []) (l := tabE) (fl := flatE) (wk := walkE) (lim := 900) (n := 60) (by decide +kernel)
def kw79 : Kn Tryz.prog := ⟨68, [lw16, vi 5], .tup [vi 5, vb false], tw79⟩
theorem tw80 : PCall Tryz.prog 69 [lw16, vi 0] (.tup [.agg [vi 4, vs ⟨#[112, 97, 103, 101]⟩, vi 0], vi 5]) := ca_known (x := xtK []) (l := tabE) (fl := flatE) (wk := walkE) (lim := 900) (n := 60) (by decide +kernel)
def kw80 : Kn Tryz.prog := ⟨69, [lw16, vi 0], .tup [.agg [vi 4, vs ⟨#[112, 97, 103, 101]⟩, vi 0], vi 5], tw80⟩
theorem tw81 : PCall Tryz.prog 68 [lw16, vi 0] (.tup [vi 0, vb false]) := ca_known (x := xtK []) (l := tabE) (fl := flatE) (wk := walkE) (lim := 900) (n := 60) (by decide +kernel)
def kw81 : Kn Tryz.prog := ⟨68, [lw16, vi 0], .tup [vi 0, vb false], tw81⟩
def lw20 : V := .slc 1 [[.c (.int .u8 64)], [.c (.int .u8 112)], [.c (.int .u8 97)], [.c (.int .u8 103)], [.c (.int .u8 101)], [.c (.int .u8 123)], [.c (.int .u8 99)], [.c (.int .u8 111)], [.c (.int .u8 108)], [.c (.int .u8 111)], [.c (.int .u8 114)], [.c (.int .u8 58)], [.c (.int .u8 114)], [.c (.int .u8 101)], [.c (.int .u8 100)], [.c (.int .u8 59)], [.c (.int .u8 64)], [.c (.int .u8 116)], [.c (.int .u8 111)], [.c (.int .u8 112)], [.c (.int .u8 45)], [.c (.int .u8 108)], [.c (.int .u8 101)], [.c (.int .u8 102)], [.c (.int .u8 116)], [.c (.int .u8 123)], [.c (.int .u8 99)], [.c (.int .u8 111)], [.c (.int .u8 110)], [.c (.int .u8 116)], [.c (.int .u8 101)], [.c (.int .u8 110)], [.c (.int .u8 116)], [.c (.int .u8 58)], [.c (.int .u8 39)], [.c (.int .u8 120)], [.c (.int .u8 39)], [.c (.int .u8 125)], [.c (.int .u8 125)]]
theorem tw82 : PCall Tryz.prog 67 [lw20] (lw16) := ca_known (x := xtK []) (l := tabE) (fl := flatE) (wk := walkE) (lim := 900) (n := 60) (by decide +kernel)
def kw82 : Kn Tryz.prog := ⟨67, [lw20], lw16, tw82⟩
def lw21 : V := .tup [.slc 3 [[vi 4, vs ⟨#[112, 97, 103, 101]⟩, vi 0], [vi 12, vs ⟨#[123]⟩, vi 0], [vi 2, vs ⟨#[99, 111, 108, 111, 114]⟩, vi 0], [vi 14, vs ⟨#[]⟩, vi 0], [vi 2, vs ⟨#[114, 101, 100]⟩, vi 0], [vi 15, vs ⟨#[]⟩, vi 0], [vi 4, vs ⟨#[116, 111, 112, 45, 108, 101, 102, 116]⟩, vi 0], [vi 12, vs ⟨#[123]⟩, vi 0], [vi 2, vs ⟨#[99, 111, 110, 116, 101, 110, 116]⟩, vi 0], [vi 14, vs ⟨#[]⟩, vi 0], [vi 6, vs ⟨#[120]⟩, vi 0], [vi 13, vs ⟨#[125]⟩, vi 0], [vi 13, vs ⟨#[125]⟩, vi 0]], vi 0]
theorem tw83 : PCall Tryz.prog 45 [lw20] (lw21) := ca_known (x := xtK [kw56, kw57, kw58, kw59, kw60, kw61, kw62, kw63, kw64, kw65, kw66, kw67, kw68, kw69, kw70, kw71, kw72, kw73, kw74, kw75, kw76, kw77, kw78, kw79, kw80, kw81, kw82]) (l := tabE) (fl := flatE) (wk := walkE) (lim := 900) (n := 60) (by decide +kernel)
def kw83 : Kn Tryz.prog := ⟨45, [lw20], lw21, tw83⟩
def lw22 : V := .tup [.slc 4 [[vi 2, .slc 3 [], .slc 3 [[vs ⟨#[99, 111, 108, 111, 114]⟩, .slc 3 [[vi 2, vs ⟨#[114, 101, 100]⟩, vi 0]], vb false]], .slc 2 [[vs ⟨#[116, 111, 112, 45, 108, 101, 102, 116]⟩, .slc 3 [[vs ⟨#[99, 111, 110, 116, 101, 110, 116]⟩, .slc 3 [[vi 6, vs ⟨#[120]⟩, vi 0]], vb false]]]]]], vi 0]
theorem tw84 : PCall Tryz.prog 25 [lw20] (lw22) := ca_known (x := xtK [kw45, kw46, kw47, kw48, kw50, kw51, kw52, kw54, kw55, kw83]) (l := tabE) (fl := flatE) (wk := walkE) (lim := 900) (n := 60) (by decide +kernel)
def kw84 : Kn Tryz.prog := ⟨25, [lw20], lw22, tw84⟩
def lw23 : V := vs ⟨#[64, 112, 97, 103, 101, 123, 99, 111, 108, 111, 114, 58, 114, 101, 100, 59, 64, 116, 111, 112, 45, 108, 101, 102, 116, 123, 99, 111, 110, 116, 101, 110, 116, 58, 39, 120, 39, 125, 125]⟩
def lw24 : V := .slc 4 [[vi 2, .slc 3 [], .slc 3 [[vs ⟨#[99, 111, 108, 111, 114]⟩, .slc 3 [[vi 2, vs ⟨#[114, 101, 100]⟩, vi 0]], vb false]], .slc 2 [[vs ⟨#[116, 111, 112, 45, 108, 101, 102, 116]⟩, .slc 3 [[vs ⟨#[99, 111, 110, 116, 101, 110, 116]⟩, .slc 3 [[vi 6, vs ⟨#[120]⟩, vi 0]], vb false]]]]]]
theorem tw85 : PCall Tryz.prog 9 [lw23] (lw24) := ca_known (x := xtK [kw84]) (l := tabE) (fl := flatE) (wk := walkE) (lim := 900) (n := 60) (by decide +kernel)
def kw85 : Kn Tryz.prog := ⟨9, [lw23], lw24, tw85⟩
def lw25 : V := .agg [vs ⟨#[109, 97, 114, 103, 105, 110, 45, 116, 111, 112]⟩, .slc 3 [[vi 10, vs ⟨#[112, 120]⟩, vi 2000]], vb false]
theorem tw86 : PCall Tryz.prog 36 [vi 9, lw25] (vb false) := ca_known (x := xtK []) (l := tabE) (fl := flatE) (wk := walkE) (lim := 900) (n := 60) (by decide +kernel)
def kw86 : Kn Tryz.prog := ⟨36, [vi 9, lw25], vb false, tw86⟩
def lw26 : V := .agg [vi 2, .slc 3 [[vi 14, vs ⟨#[]⟩, vi 0], [vi 2, vs ⟨#[108, 101, 102, 116]⟩, vi 0]], .slc 3 [[vs ⟨#[109, 97, 114, 103, 105, 110, 45, 116, 111, 112]⟩, .slc 3 [[vi 10, vs ⟨#[112, 120]⟩, vi 2000]], vb false]], vnil]
theorem tw87 : PCall Tryz.prog 59 [lw26, .agg [vi 2, vb false, vb false, vb false, vs ⟨#[]⟩, vi 0]] (.tup [.agg [vi 0, vi 0, vi 1], vb true]) := ca_known (x := xtK []) (l := tabE) (fl := flatE) (wk := walkE) (lim := 900) (n := 60) (by decide +kernel)
def kw87 : Kn Tryz.prog := ⟨59, [lw26, .agg [vi 2, vb false, vb false, vb false, vs ⟨#[]⟩, vi 0]], .tup [.agg [vi 0, vi 0, vi 1], vb true], tw87⟩
def lw27 : V := .agg [vs ⟨#[109, 97, 114, 103, 105, 110]⟩, .slc 3 [[vi 10, vs ⟨#[112, 120]⟩, vi 1000]], vb false]
theorem tw88 : PCall Tryz.prog 36 [vi 9, lw27] (vb false) := ca_known (x := xtK []) (l := tabE) (fl := flatE) (wk := walkE) (lim := 900) (n := 60) (by decide +kernel)
def kw88 : Kn Tryz.prog := ⟨36, [vi 9, lw27], vb false, tw88⟩
def lw28 : V := .agg [vi 2, .slc 3 [], .slc 3 [[vs ⟨#[109, 97, 114, 103, 105, 110]⟩, .slc 3 [[vi 10, vs ⟨#[112, 120]⟩, vi 1000]], vb false]], vnil]
theorem tw89 : PCall Tryz.prog 59 [lw28, .agg [vi 2, vb false, vb false, vb false, vs ⟨#[]⟩, vi 0]] (.tup [.agg [vi 0, vi 0, vi 0], vb true]) := ca_known (x := xtK []) (l := tabE) (fl := flatE) (wk := walkE) (lim := 900) (n := 60) (by decide +kernel)
def kw89 : Kn Tryz.prog := ⟨59, [lw28, .agg [vi 2, vb false, vb false, vb false, vs ⟨#[]⟩, vi 0]], .tup [.agg [vi 0, vi 0, vi 0], vb true], tw89⟩
def lw29 : V := .slc 1 [[.slc 4 [[vi 2, .slc 3 [], .slc 3 [[vs ⟨#[109, 97, 114, 103, 105, 110]⟩, .slc 3 [[vi 10, vs ⟨#[112, 120]⟩, vi 1000]], vb false]], vnil], [vi 2, .slc 3 [[vi 14, vs ⟨#[]⟩, vi 0], [vi 2, vs ⟨#[108, 101, 102, 116]⟩, vi 0]], .slc 3 [[vs ⟨#[109, 97, 114, 103, 105, 110, 45, 116, 111, 112]⟩, .slc 3 [[vi 10, vs ⟨#[112, 120]⟩, vi 2000]], vb false]], vnil]]]]
theorem tw90 : PCall Tryz.prog 19 [lw29, .agg [vi 2, vb false, vb false, vb false, vs ⟨#[]⟩, vi 0], vi (-1), vi 9] (lw4) := ca_known (x := xtK [kw0, kw1, kw2, kw4, kw5, kw7, kw8, kw10, kw11, kw13, kw14, kw16, kw17, kw19, kw20, kw22, kw23, kw25, kw26, kw28, kw29, kw31, kw32, kw34, kw35, kw37, kw38, kw40, kw41, kw86, kw87, kw88, kw89]) (l := tabE) (fl := flatE) (wk := walkE) (lim := 900) (n := 60) (by decide +kernel)
def kw90 : Kn Tryz.prog := ⟨19, [lw29, .agg [vi 2, vb false, vb false, vb false, vs ⟨#[]⟩, vi 0], vi (-1), vi 9], lw4, tw90⟩
theorem tw91 : PCall Tryz.prog 36 [vi 8, lw25] (vb false) := ca_known (x := xtK []) (l := tabE) (fl := flatE) (wk := walkE) (lim := 900) (n := 60) (by decide +kernel)
def kw91 : Kn Tryz.prog := ⟨36, [vi 8, lw25], vb false, tw91⟩
theorem tw92 : PCall Tryz.prog 36 [vi 8, lw27] (vb false) := ca_known (x := xtK []) (l := tabE) (fl := flatE) (wk := walkE) (lim := 900) (n := 60) (by decide +kernel)
def kw92 : Kn Tryz.prog := ⟨36, [vi 8, lw27], vb false, tw92⟩
theorem tw93 : PCall Tryz.prog 19 [lw29, .agg [vi 2, vb false, vb false, vb false, vs ⟨#[]⟩, vi 0], vi (-1), vi 8] (lw4) := ca_known (x := xtK [kw0, kw1, kw2, kw4, kw5, kw7, kw8, kw10, kw11, kw13, kw14, kw16, kw17, kw19, kw20, kw22, kw23, kw25, kw26, kw28, kw29, kw31, kw32, kw34, kw35, kw37, kw38, kw40, kw41, kw86, kw87, kw88, kw89, kw91, kw92]) (l := tabE) (fl := flatE) (wk := walkE) (lim := 900) (n := 60) (by decide +kernel)
def kw93 : Kn Tryz.prog := ⟨19, [lw29, .agg [vi 2, vb false, vb false, vb false, vs ⟨#[]⟩, vi 0], vi (-1), vi 8], lw4, tw93⟩
theorem tw94 : PCall Tryz.prog 36 [vi 7, lw25] (vb false) := ca_known (x := xtK []) (l := tabE) (fl := flatE) (wk := walkE) (lim := 900) (n := 60) (by decide +kernel)
def kw94 : Kn Tryz.prog := ⟨36, [vi 7, lw25], vb false, tw94⟩
theorem tw95 : PCall Tryz.prog 36 [vi 7, lw27] (vb false) := ca_known (x := xtK []) (l := tabE) (fl := flatE) (wk := walkE) (lim := 900) (n := 60) (by decide +kernel)
def kw95 : Kn Tryz.prog := ⟨36, [vi 7, lw27], vb false, tw95⟩
theorem tw96 : PCall Tryz.prog 19 [lw29, .agg [vi 2, vb false, vb false, vb false, vs ⟨#[]⟩, vi 0], vi (-1), vi 7] (lw4) := ca_known (x := xtK [kw0, kw1, kw2, kw4, kw5, kw7, kw8, kw10, kw11, kw13, kw14, kw16, kw17, kw19, kw20, kw22, kw23, kw25, kw26, kw28, kw29, kw31, kw32, kw34, kw35, kw37, kw38, kw40, kw41, kw86, kw87, kw88, kw89, kw91, kw92, kw94, kw95]) (l := tabE) (fl := flatE) (wk := walkE) (lim := 900) (n := 60) (by decide +kernel)
def kw96 : Kn Tryz.prog := ⟨19, [lw29, .agg [vi 2, vb false, vb false, vb false, vs ⟨#[]⟩, vi 0], vi (-1), vi 7], lw4, tw96⟩
theorem tw97 : PCall Tryz.prog 36 [vi 6, lw25] (vb false) := ca_known (x := xtK []) (l := tabE) (fl := flatE) (wk := walkE) (lim := 900) (n := 60) (by decide +kernel)
def kw97 : Kn Tryz.prog := ⟨36, [vi 6, lw25], vb false, tw97⟩
theorem tw98 : PCall Tryz.prog 36 [vi 6, lw27] (vb false) := ca_known (x := xtK []) (l := tabE) (fl := flatE) (wk := walkE) (lim := 900) (n := 60) (by decide +kernel)
def kw98 : Kn Tryz.prog := ⟨36, [vi 6, lw27], vb false, tw98⟩
theorem tw99 : PCall Tryz.prog 19 [lw29, .agg [vi 2, vb false, vb false, vb false, vs ⟨#[]⟩, vi 0], vi (-1), vi 6] (lw4) := ca_known (x := xtK [kw0, kw1, kw2, kw4, kw5, kw7, kw8, kw10, kw11, kw13, kw14, kw16, kw17, kw19, kw20, kw22, kw23, kw25, kw26, kw28, kw29, kw31, kw32, kw34, kw35, kw37, kw38, kw40, kw41, kw86, kw87, kw88, kw89, kw91, kw92, kw94, kw95, kw97, kw98]) (l := tabE) (fl := flatE) (wk := walkE) (lim := 900) (n := 60) (by decide +kernel)
def kw99 : Kn Tryz.prog := ⟨19, [lw29, .agg [vi 2, vb false, vb false, vb false, vs ⟨#[]⟩, vi 0], vi (-1), vi 6], lw4, tw99⟩
end Go.Proofs.YtilinnmancfjgaaGreatDoor
