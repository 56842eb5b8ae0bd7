/- Part of the proof of ContextMargins. No condition. -/
import Derived.Test.YtlaopdfpncckeaaGreatDoorAw6
namespace Go.Proofs.YtlaopdfpncckeaaGreatDoor
open Go.Sx
set_option maxRecDepth 100000
theorem zuG:ze Tryz.prog 114 [yk,vi 12] (.tup [.agg [vi 14,vs ⟨#[]⟩,vi 0],vi 13]):=zf (x:=xtK []) (l:=zo) (fl:=zk) (wk:=zl) (lim:=900) (n:=60) (by decide +kernel)
def zsG:Kn Tryz.prog:=⟨114,[yk,vi 12],.tup [.agg [vi 14,vs ⟨#[]⟩,vi 0],vi 13],zuG⟩
theorem zuH:ze Tryz.prog 113 [yk,vi 12] (.tup [vi 12,vb false]):=zf (x:=xtK []) (l:=zo) (fl:=zk) (wk:=zl) (lim:=900) (n:=60) (by decide +kernel)
def zsH:Kn Tryz.prog:=⟨113,[yk,vi 12],.tup [vi 12,vb false],zuH⟩
def ztI:V:=.tup [.agg [vi 2,vs ⟨#[109,97,114,103,105,110]⟩,vi 0],vi 12]
theorem zuI:ze Tryz.prog 114 [yk,vi 6] (ztI):=zf (x:=xtK []) (l:=zo) (fl:=zk) (wk:=zl) (lim:=900) (n:=60) (by decide +kernel)
def zsI:Kn Tryz.prog:=⟨114,[yk,vi 6],ztI,zuI⟩
theorem zuJ:ze Tryz.prog 113 [yk,vi 6] (.tup [vi 6,vb false]):=zf (x:=xtK []) (l:=zo) (fl:=zk) (wk:=zl) (lim:=900) (n:=60) (by decide +kernel)
def zsJ:Kn Tryz.prog:=⟨113,[yk,vi 6],.tup [vi 6,vb false],zuJ⟩
theorem zuK:ze Tryz.prog 114 [yk,vi 5] (.tup [.agg [vi 12,vs ⟨#[123]⟩,vi 0],vi 6]):=zf (x:=xtK []) (l:=zo) (fl:=zk) (wk:=zl) (lim:=900) (n:=60) (by decide +kernel)
def zsK:Kn Tryz.prog:=⟨114,[yk,vi 5],.tup [.agg [vi 12,vs ⟨#[123]⟩,vi 0],vi 6],zuK⟩
theorem zuL:ze Tryz.prog 113 [yk,vi 5] (.tup [vi 5,vb false]):=zf (x:=xtK []) (l:=zo) (fl:=zk) (wk:=zl) (lim:=900) (n:=60) (by decide +kernel)
def zsL:Kn Tryz.prog:=⟨113,[yk,vi 5],.tup [vi 5,vb false],zuL⟩
theorem zuM:ze Tryz.prog 114 [yk,vi 0] (.tup [.agg [vi 4,vs ⟨#[112,97,103,101]⟩,vi 0],vi 5]):=zf (x:=xtK []) (l:=zo) (fl:=zk) (wk:=zl) (lim:=900) (n:=60) (by decide +kernel)
def zsM:Kn Tryz.prog:=⟨114,[yk,vi 0],.tup [.agg [vi 4,vs ⟨#[112,97,103,101]⟩,vi 0],vi 5],zuM⟩
theorem zuN:ze Tryz.prog 113 [yk,vi 0] (.tup [vi 0,vb false]):=zf (x:=xtK []) (l:=zo) (fl:=zk) (wk:=zl) (lim:=900) (n:=60) (by decide +kernel)
def zsN:Kn Tryz.prog:=⟨113,[yk,vi 0],.tup [vi 0,vb false],zuN⟩
def zfX:V:=.slc 1 [[.c (.int .u8 64)],[.c (.int .u8 112)],[.c (.int .u8 97)],[.c (.int .u8 103)],[.c (.int .u8 101)],[.c (.int .u8 123)],[.c (.int .u8 109)],[.c (.int .u8 97)],[.c (.int .u8 114)],[.c (.int .u8 103)],[.c (.int .u8 105)],[.c (.int .u8 110)],[.c (.int .u8 58)],[.c (.int .u8 49)],[.c (.int .u8 112)],[.c (.int .u8 120)],[.c (.int .u8 125)],[.c (.int .u8 32)],[.c (.int .u8 64)],[.c (.int .u8 112)],[.c (.int .u8 97)],[.c (.int .u8 103)],[.c (.int .u8 101)],[.c (.int .u8 32)],[.c (.int .u8 58)],[.c (.int .u8 108)],[.c (.int .u8 101)],[.c (.int .u8 102)],[.c (.int .u8 116)],[.c (.int .u8 123)],[.c (.int .u8 109)],[.c (.int .u8 97)],[.c (.int .u8 114)],[.c (.int .u8 103)],[.c (.int .u8 105)],[.c (.int .u8 110)],[.c (.int .u8 45)],[.c (.int .u8 116)],[.c (.int .u8 111)],[.c (.int .u8 112)],[.c (.int .u8 58)],[.c (.int .u8 50)],[.c (.int .u8 112)],[.c (.int .u8 120)],[.c (.int .u8 125)]]
theorem zuO:ze Tryz.prog 112 [zfX] (yk):=zf (x:=xtK []) (l:=zo) (fl:=zk) (wk:=zl) (lim:=900) (n:=60) (by decide +kernel)
def zsO:Kn Tryz.prog:=⟨112,[zfX],yk,zuO⟩
def ztJ:V:=.tup [.slc 3 [[vi 4,vs ⟨#[112,97,103,101]⟩,vi 0],[vi 12,vs ⟨#[123]⟩,vi 0],[vi 2,vs ⟨#[109,97,114,103,105,110]⟩,vi 0],[vi 14,vs ⟨#[]⟩,vi 0],[vi 10,vs ⟨#[112,120]⟩,vi 1000],[vi 13,vs ⟨#[125]⟩,vi 0],[vi 1,vs ⟨#[]⟩,vi 0],[vi 4,vs ⟨#[112,97,103,101]⟩,vi 0],[vi 1,vs ⟨#[]⟩,vi 0],[vi 14,vs ⟨#[]⟩,vi 0],[vi 2,vs ⟨#[108,101,102,116]⟩,vi 0],[vi 12,vs ⟨#[123]⟩,vi 0],[vi 2,vs ⟨#[109,97,114,103,105,110,45,116,111,112]⟩,vi 0],[vi 14,vs ⟨#[]⟩,vi 0],[vi 10,vs ⟨#[112,120]⟩,vi 2000],[vi 13,vs ⟨#[125]⟩,vi 0]],vi 0]
theorem zuP:ze Tryz.prog 89 [zfX] (ztJ):=zf (x:=xtK [zsT,zsU,zsV,zsW,zsX,zsY,zsZ,zs0,zs1,zs2,zs3,zs4,zs5,zs6,zs7,zs8,zs9,zta,ztb,ztc,ztd,zte,ztf,ztg,zth,zti,ztj,zsm,zsn,zso,zsp,zsq,zsr,zss,zst,zsu,zsv,zsw,zsx,zsy,zsz,zsA,zsB,zsC,zsD,zsE,zsF,zsG,zsH,zsI,zsJ,zsK,zsL,zsM,zsN,zsO]) (l:=zo) (fl:=zk) (wk:=zl) (lim:=900) (n:=60) (by decide +kernel)
def zsP:Kn Tryz.prog:=⟨89,[zfX],ztJ,zuP⟩
def ztK:V:=.tup [.slc 4 [[vi 2,.slc 3 [],.slc 3 [[vs ⟨#[109,97,114,103,105,110]⟩,.slc 3 [[vi 10,vs ⟨#[112,120]⟩,vi 1000]],vb false]],zL],[vi 2,.slc 3 [[vi 14,vs ⟨#[]⟩,vi 0],[vi 2,vs ⟨#[108,101,102,116]⟩,vi 0]],.slc 3 [[vs ⟨#[109,97,114,103,105,110,45,116,111,112]⟩,.slc 3 [[vi 10,vs ⟨#[112,120]⟩,vi 2000]],vb false]],zL]],vi 0]
theorem zuQ:ze Tryz.prog 62 [zfX] (ztK):=zf (x:=xtK [zaO,zfM,zc2,zfN,ziW,zfO,ziX,znU,ziY,ztk,zeC,ziT,ziU,ziV,zpx,zpy,zpz,zsk,zsl,zsP]) (l:=zo) (fl:=zk) (wk:=zl) (lim:=900) (n:=60) (by decide +kernel)
def zsQ:Kn Tryz.prog:=⟨62,[zfX],ztK,zuQ⟩
def ztL:V:=vs ⟨#[64,112,97,103,101,123,109,97,114,103,105,110,58,49,112,120,125,32,64,112,97,103,101,32,58,108,101,102,116,123,109,97,114,103,105,110,45,116,111,112,58,50,112,120,125]⟩
def ztM:V:=.slc 4 [[vi 2,.slc 3 [],.slc 3 [[vs ⟨#[109,97,114,103,105,110]⟩,.slc 3 [[vi 10,vs ⟨#[112,120]⟩,vi 1000]],vb false]],zL],[vi 2,.slc 3 [[vi 14,vs ⟨#[]⟩,vi 0],[vi 2,vs ⟨#[108,101,102,116]⟩,vi 0]],.slc 3 [[vs ⟨#[109,97,114,103,105,110,45,116,111,112]⟩,.slc 3 [[vi 10,vs ⟨#[112,120]⟩,vi 2000]],vb false]],zL]]
theorem zuR:ze Tryz.prog 25 [ztL] (ztM):=zf (x:=xtK [ztl,zsQ]) (l:=zo) (fl:=zk) (wk:=zl) (lim:=900) (n:=60) (by decide +kernel)
def zsR:Kn Tryz.prog:=⟨25,[ztL],ztM,zuR⟩
theorem zhX:ze Tryz.prog 8 [] (vb true):=zf (x:=xtK [zsS,zu6,zu7,zsi,zsR]) (l:=zo) (fl:=zk) (wk:=zl) (lim:=900) (n:=60) (by decide +kernel)
end Go.Proofs.YtlaopdfpncckeaaGreatDoor
