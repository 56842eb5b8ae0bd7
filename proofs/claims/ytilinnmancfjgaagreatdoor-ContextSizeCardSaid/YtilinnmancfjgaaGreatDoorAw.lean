/- What the law's own example gives, run by the kernel in stages. -/
import Derived.Test.YtilinnmancfjgaaGreatDoorAw6
namespace Go.Proofs.YtilinnmancfjgaaGreatDoor
open Go.Sx
set_option maxRecDepth 100000
theorem tw150 : PCall Tryz.prog 69 [lw41, vi 12] (.tup [.agg [vi 14, vs ⟨#[]⟩, vi 0], vi 13]) := ca_known (x := xtK []) (l := tabE) (fl := flatE) (wk := walkE) (lim := 900) (n := 60) (by decide +kernel)
def kw150 : Kn Tryz.prog := ⟨69, [lw41, vi 12], .tup [.agg [vi 14, vs ⟨#[]⟩, vi 0], vi 13], tw150⟩
theorem tw151 : PCall Tryz.prog 68 [lw41, vi 12] (.tup [vi 12, vb false]) := ca_known (x := xtK []) (l := tabE) (fl := flatE) (wk := walkE) (lim := 900) (n := 60) (by decide +kernel)
def kw151 : Kn Tryz.prog := ⟨68, [lw41, vi 12], .tup [vi 12, vb false], tw151⟩
def lw43 : V := .tup [.agg [vi 2, vs ⟨#[109, 97, 114, 103, 105, 110]⟩, vi 0], vi 12]
theorem tw152 : PCall Tryz.prog 69 [lw41, vi 6] (lw43) := ca_known (x := xtK []) (l := tabE) (fl := flatE) (wk := walkE) (lim := 900) (n := 60) (by decide +kernel)
def kw152 : Kn Tryz.prog := ⟨69, [lw41, vi 6], lw43, tw152⟩
theorem tw153 : PCall Tryz.prog 68 [lw41, vi 6] (.tup [vi 6, vb false]) := ca_known (x := xtK []) (l := tabE) (fl := flatE) (wk := walkE) (lim := 900) (n := 60) (by decide +kernel)
def kw153 : Kn Tryz.prog := ⟨68, [lw41, vi 6], .tup [vi 6, vb false], tw153⟩
theorem tw154 : PCall Tryz.prog 69 [lw41, vi 5] (.tup [.agg [vi 12, vs ⟨#[123]⟩, vi 0], vi 6]) := ca_known (x := xtK []) (l := tabE) (fl := flatE) (wk := walkE) (lim := 900) (n := 60) (by decide +kernel)
def kw154 : Kn Tryz.prog := ⟨69, [lw41, vi 5], .tup [.agg [vi 12, vs ⟨#[123]⟩, vi 0], vi 6], tw154⟩
theorem tw155 : PCall Tryz.prog 68 [lw41, vi 5] (.tup [vi 5, vb false]) := ca_known (x := xtK []) (l := tabE) (fl := flatE) (wk := walkE) (lim := 900) (n := 60) (by decide +kernel)
def kw155 : Kn Tryz.prog := ⟨68, [lw41, vi 5], .tup [vi 5, vb false], tw155⟩
theorem tw156 : PCall Tryz.prog 69 [lw41, vi 0] (.tup [.agg [vi 4, vs ⟨#[112, 97, 103, 101]⟩, vi 0], vi 5]) := ca_known (x := xtK []) (l := tabE) (fl := flatE) (wk := walkE) (lim := 900) (n := 60) (by decide +kernel)
def kw156 : Kn Tryz.prog := ⟨69, [lw41, vi 0], .tup [.agg [vi 4, vs ⟨#[112, 97, 103, 101]⟩, vi 0], vi 5], tw156⟩
theorem tw157 : PCall Tryz.prog 68 [lw41, vi 0] (.tup [vi 0, vb false]) := ca_known (x := xtK []) (l := tabE) (fl := flatE) (wk := walkE) (lim := 900) (n := 60) (by decide +kernel)
def kw157 : Kn Tryz.prog := ⟨68, [lw41, vi 0], .tup [vi 0, vb false], tw157⟩
def lw44 : V := .slc 1 [[.c (.int .u8 64)], [.c (.int .u8 112)], [.c (.int .u8 97)], [.c (.int .u8 103)], [.c (.int .u8 101)], [.c (.int .u8 123)], [.c (.int .u8 109)], [.c (.int .u8 97)], [.c (.int .u8 114)], [.c (.int .u8 103)], [.c (.int .u8 105)], [.c (.int .u8 110)], [.c (.int .u8 58)], [.c (.int .u8 49)], [.c (.int .u8 112)], [.c (.int .u8 120)], [.c (.int .u8 125)], [.c (.int .u8 32)], [.c (.int .u8 64)], [.c (.int .u8 112)], [.c (.int .u8 97)], [.c (.int .u8 103)], [.c (.int .u8 101)], [.c (.int .u8 32)], [.c (.int .u8 58)], [.c (.int .u8 108)], [.c (.int .u8 101)], [.c (.int .u8 102)], [.c (.int .u8 116)], [.c (.int .u8 123)], [.c (.int .u8 109)], [.c (.int .u8 97)], [.c (.int .u8 114)], [.c (.int .u8 103)], [.c (.int .u8 105)], [.c (.int .u8 110)], [.c (.int .u8 45)], [.c (.int .u8 116)], [.c (.int .u8 111)], [.c (.int .u8 112)], [.c (.int .u8 58)], [.c (.int .u8 50)], [.c (.int .u8 112)], [.c (.int .u8 120)], [.c (.int .u8 125)]]
theorem tw158 : PCall Tryz.prog 67 [lw44] (lw41) := ca_known (x := xtK []) (l := tabE) (fl := flatE) (wk := walkE) (lim := 900) (n := 60) (by decide +kernel)
def kw158 : Kn Tryz.prog := ⟨67, [lw44], lw41, tw158⟩
def lw45 : V := .tup [.slc 3 [[vi 4, vs ⟨#[112, 97, 103, 101]⟩, vi 0], [vi 12, vs ⟨#[123]⟩, vi 0], [vi 2, vs ⟨#[109, 97, 114, 103, 105, 110]⟩, vi 0], [vi 14, vs ⟨#[]⟩, vi 0], [vi 10, vs ⟨#[112, 120]⟩, vi 1000], [vi 13, vs ⟨#[125]⟩, vi 0], [vi 1, vs ⟨#[]⟩, vi 0], [vi 4, vs ⟨#[112, 97, 103, 101]⟩, vi 0], [vi 1, vs ⟨#[]⟩, vi 0], [vi 14, vs ⟨#[]⟩, vi 0], [vi 2, vs ⟨#[108, 101, 102, 116]⟩, vi 0], [vi 12, vs ⟨#[123]⟩, vi 0], [vi 2, vs ⟨#[109, 97, 114, 103, 105, 110, 45, 116, 111, 112]⟩, vi 0], [vi 14, vs ⟨#[]⟩, vi 0], [vi 10, vs ⟨#[112, 120]⟩, vi 2000], [vi 13, vs ⟨#[125]⟩, vi 0]], vi 0]
theorem tw159 : PCall Tryz.prog 45 [lw44] (lw45) := ca_known (x := xtK [kw56, kw57, kw58, kw59, kw60, kw61, kw62, kw63, kw64, kw65, kw66, kw67, kw68, kw69, kw70, kw71, kw72, kw73, kw74, kw75, kw76, kw77, kw78, kw79, kw80, kw81, kw82, kw130, kw131, kw132, kw133, kw134, kw135, kw136, kw137, kw138, kw139, kw140, kw141, kw142, kw143, kw144, kw145, kw146, kw147, kw148, kw149, kw150, kw151, kw152, kw153, kw154, kw155, kw156, kw157, kw158]) (l := tabE) (fl := flatE) (wk := walkE) (lim := 900) (n := 60) (by decide +kernel)
def kw159 : Kn Tryz.prog := ⟨45, [lw44], lw45, tw159⟩
def lw46 : V := .tup [.slc 4 [[vi 2, .slc 3 [], .slc 3 [[vs ⟨#[109, 97, 114, 103, 105, 110]⟩, .slc 3 [[vi 10, vs ⟨#[112, 120]⟩, vi 1000]], vb false]], vnil], [vi 2, .slc 3 [[vi 14, vs ⟨#[]⟩, vi 0], [vi 2, vs ⟨#[108, 101, 102, 116]⟩, vi 0]], .slc 3 [[vs ⟨#[109, 97, 114, 103, 105, 110, 45, 116, 111, 112]⟩, .slc 3 [[vi 10, vs ⟨#[112, 120]⟩, vi 2000]], vb false]], vnil]], vi 0]
theorem tw160 : PCall Tryz.prog 25 [lw44] (lw46) := ca_known (x := xtK [kw45, kw46, kw47, kw48, kw50, kw51, kw52, kw54, kw55, kw83, kw119, kw120, kw121, kw122, kw124, kw125, kw126, kw128, kw129, kw159]) (l := tabE) (fl := flatE) (wk := walkE) (lim := 900) (n := 60) (by decide +kernel)
def kw160 : Kn Tryz.prog := ⟨25, [lw44], lw46, tw160⟩
def lw47 : V := vs ⟨#[64, 112, 97, 103, 101, 123, 109, 97, 114, 103, 105, 110, 58, 49, 112, 120, 125, 32, 64, 112, 97, 103, 101, 32, 58, 108, 101, 102, 116, 123, 109, 97, 114, 103, 105, 110, 45, 116, 111, 112, 58, 50, 112, 120, 125]⟩
def lw48 : V := .slc 4 [[vi 2, .slc 3 [], .slc 3 [[vs ⟨#[109, 97, 114, 103, 105, 110]⟩, .slc 3 [[vi 10, vs ⟨#[112, 120]⟩, vi 1000]], vb false]], vnil], [vi 2, .slc 3 [[vi 14, vs ⟨#[]⟩, vi 0], [vi 2, vs ⟨#[108, 101, 102, 116]⟩, vi 0]], .slc 3 [[vs ⟨#[109, 97, 114, 103, 105, 110, 45, 116, 111, 112]⟩, .slc 3 [[vi 10, vs ⟨#[112, 120]⟩, vi 2000]], vb false]], vnil]]
theorem tw161 : PCall Tryz.prog 9 [lw47] (lw48) := ca_known (x := xtK [kw84, kw160]) (l := tabE) (fl := flatE) (wk := walkE) (lim := 900) (n := 60) (by decide +kernel)
def kw161 : Kn Tryz.prog := ⟨9, [lw47], lw48, tw161⟩
theorem awake_ok : PCall Tryz.prog 5 [] (vb true) := ca_known (x := xtK [kw43, kw44, kw85, kw118, kw161]) (l := tabE) (fl := flatE) (wk := walkE) (lim := 900) (n := 60) (by decide +kernel)
end Go.Proofs.YtilinnmancfjgaaGreatDoor
