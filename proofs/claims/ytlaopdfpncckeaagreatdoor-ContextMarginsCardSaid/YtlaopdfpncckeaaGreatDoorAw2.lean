/- Part of the proof of ContextMargins. No condition. -/
import Derived.Test.YtlaopdfpncckeaaGreatDoorAw1
namespace Go.Proofs.YtlaopdfpncckeaaGreatDoor
open Go.Sx
set_option maxRecDepth 100000
theorem zvw:ze Tryz.prog 72 [vi 5,lw0] (vb false):=zf (x:=xtK []) (l:=zo) (fl:=zk) (wk:=zl) (lim:=900) (n:=60) (by decide +kernel)
def Z9:Kn Tryz.prog:=⟨72,[vi 5,lw0],vb false,zvw⟩
theorem zvx:ze Tryz.prog 72 [vi 5,lw1] (vb false):=zf (x:=xtK []) (l:=zo) (fl:=zk) (wk:=zl) (lim:=900) (n:=60) (by decide +kernel)
def Ya:Kn Tryz.prog:=⟨72,[vi 5,lw1],vb false,zvx⟩
theorem zvy:ze Tryz.prog 35 [lw3,.agg [vi 1,vb false,vb false,vb false,vs ⟨#[]⟩,vi 0],vi (-1),vi 5] (lw4):=zf (x:=xtK [kw0,kw1,kw2,kw4,kw5,kw7,kw8,jk,jl,jD,jE,j6,j7,Zo,Zp,ZD,ZE,Z9,Ya]) (l:=zo) (fl:=zk) (wk:=zl) (lim:=900) (n:=60) (by decide +kernel)
def zq4:Kn Tryz.prog:=⟨35,[lw3,.agg [vi 1,vb false,vb false,vb false,vs ⟨#[]⟩,vi 0],vi (-1),vi 5],lw4,zvy⟩
theorem zvz:ze Tryz.prog 72 [vi 4,lw0] (vb false):=zf (x:=xtK []) (l:=zo) (fl:=zk) (wk:=zl) (lim:=900) (n:=60) (by decide +kernel)
def Yu:Kn Tryz.prog:=⟨72,[vi 4,lw0],vb false,zvz⟩
theorem zvA:ze Tryz.prog 72 [vi 4,lw1] (vb false):=zf (x:=xtK []) (l:=zo) (fl:=zk) (wk:=zl) (lim:=900) (n:=60) (by decide +kernel)
def Yv:Kn Tryz.prog:=⟨72,[vi 4,lw1],vb false,zvA⟩
theorem zvB:ze Tryz.prog 35 [lw3,.agg [vi 1,vb false,vb false,vb false,vs ⟨#[]⟩,vi 0],vi (-1),vi 4] (lw4):=zf (x:=xtK [kw0,kw1,kw2,kw4,kw5,kw7,kw8,jk,jl,jD,jE,j6,j7,Zo,Zp,ZD,ZE,Z9,Ya,Yu,Yv]) (l:=zo) (fl:=zk) (wk:=zl) (lim:=900) (n:=60) (by decide +kernel)
def zq5:Kn Tryz.prog:=⟨35,[lw3,.agg [vi 1,vb false,vb false,vb false,vs ⟨#[]⟩,vi 0],vi (-1),vi 4],lw4,zvB⟩
theorem zvC:ze Tryz.prog 72 [vi 3,lw0] (vb false):=zf (x:=xtK []) (l:=zo) (fl:=zk) (wk:=zl) (lim:=900) (n:=60) (by decide +kernel)
def YW:Kn Tryz.prog:=⟨72,[vi 3,lw0],vb false,zvC⟩
theorem zvD:ze Tryz.prog 72 [vi 3,lw1] (vb false):=zf (x:=xtK []) (l:=zo) (fl:=zk) (wk:=zl) (lim:=900) (n:=60) (by decide +kernel)
def YX:Kn Tryz.prog:=⟨72,[vi 3,lw1],vb false,zvD⟩
theorem zvE:ze Tryz.prog 35 [lw3,.agg [vi 1,vb false,vb false,vb false,vs ⟨#[]⟩,vi 0],vi (-1),vi 3] (lw4):=zf (x:=xtK [kw0,kw1,kw2,kw4,kw5,kw7,kw8,jk,jl,jD,jE,j6,j7,Zo,Zp,ZD,ZE,Z9,Ya,Yu,Yv,YW,YX]) (l:=zo) (fl:=zk) (wk:=zl) (lim:=900) (n:=60) (by decide +kernel)
def zq6:Kn Tryz.prog:=⟨35,[lw3,.agg [vi 1,vb false,vb false,vb false,vs ⟨#[]⟩,vi 0],vi (-1),vi 3],lw4,zvE⟩
theorem zvF:ze Tryz.prog 72 [vi 2,lw0] (vb false):=zf (x:=xtK []) (l:=zo) (fl:=zk) (wk:=zl) (lim:=900) (n:=60) (by decide +kernel)
def Qw:Kn Tryz.prog:=⟨72,[vi 2,lw0],vb false,zvF⟩
theorem zvG:ze Tryz.prog 72 [vi 2,lw1] (vb false):=zf (x:=xtK []) (l:=zo) (fl:=zk) (wk:=zl) (lim:=900) (n:=60) (by decide +kernel)
def Qx:Kn Tryz.prog:=⟨72,[vi 2,lw1],vb false,zvG⟩
theorem zvH:ze Tryz.prog 35 [lw3,.agg [vi 1,vb false,vb false,vb false,vs ⟨#[]⟩,vi 0],vi (-1),vi 2] (lw4):=zf (x:=xtK [kw0,kw1,kw2,kw4,kw5,kw7,kw8,jk,jl,jD,jE,j6,j7,Zo,Zp,ZD,ZE,Z9,Ya,Yu,Yv,YW,YX,Qw,Qx]) (l:=zo) (fl:=zk) (wk:=zl) (lim:=900) (n:=60) (by decide +kernel)
def zq7:Kn Tryz.prog:=⟨35,[lw3,.agg [vi 1,vb false,vb false,vb false,vs ⟨#[]⟩,vi 0],vi (-1),vi 2],lw4,zvH⟩
theorem zvI:ze Tryz.prog 72 [vi 1,lw0] (vb false):=zf (x:=xtK []) (l:=zo) (fl:=zk) (wk:=zl) (lim:=900) (n:=60) (by decide +kernel)
def Ke:Kn Tryz.prog:=⟨72,[vi 1,lw0],vb false,zvI⟩
theorem zvJ:ze Tryz.prog 72 [vi 1,lw1] (vb false):=zf (x:=xtK []) (l:=zo) (fl:=zk) (wk:=zl) (lim:=900) (n:=60) (by decide +kernel)
def Kf:Kn Tryz.prog:=⟨72,[vi 1,lw1],vb false,zvJ⟩
theorem zvK:ze Tryz.prog 35 [lw3,.agg [vi 1,vb false,vb false,vb false,vs ⟨#[]⟩,vi 0],vi (-1),vi 1] (lw4):=zf (x:=xtK [kw0,kw1,kw2,kw4,kw5,kw7,kw8,jk,jl,jD,jE,j6,j7,Zo,Zp,ZD,ZE,Z9,Ya,Yu,Yv,YW,YX,Qw,Qx,Ke,Kf]) (l:=zo) (fl:=zk) (wk:=zl) (lim:=900) (n:=60) (by decide +kernel)
def zq8:Kn Tryz.prog:=⟨35,[lw3,.agg [vi 1,vb false,vb false,vb false,vs ⟨#[]⟩,vi 0],vi (-1),vi 1],lw4,zvK⟩
theorem zvL:ze Tryz.prog 72 [vi 0,lw0] (vb false):=zf (x:=xtK []) (l:=zo) (fl:=zk) (wk:=zl) (lim:=900) (n:=60) (by decide +kernel)
def KV:Kn Tryz.prog:=⟨72,[vi 0,lw0],vb false,zvL⟩
theorem zvM:ze Tryz.prog 72 [vi 0,lw1] (vb false):=zf (x:=xtK []) (l:=zo) (fl:=zk) (wk:=zl) (lim:=900) (n:=60) (by decide +kernel)
def KW:Kn Tryz.prog:=⟨72,[vi 0,lw1],vb false,zvM⟩
theorem zvN:ze Tryz.prog 35 [lw3,.agg [vi 1,vb false,vb false,vb false,vs ⟨#[]⟩,vi 0],vi (-1),vi 0] (lw4):=zf (x:=xtK [kw0,kw1,kw2,kw4,kw5,kw7,kw8,jk,jl,jD,jE,j6,j7,Zo,Zp,ZD,ZE,Z9,Ya,Yu,Yv,YW,YX,Qw,Qx,Ke,Kf,KV,KW]) (l:=zo) (fl:=zk) (wk:=zl) (lim:=900) (n:=60) (by decide +kernel)
def zq9:Kn Tryz.prog:=⟨35,[lw3,.agg [vi 1,vb false,vb false,vb false,vs ⟨#[]⟩,vi 0],vi (-1),vi 0],lw4,zvN⟩
def lw7:V:=.tup [.agg [vi 793700,vi 1122519,vi 48000,vi 48000,vi 48000,vi 48000,zL,zL,zL,vs ⟨#[114,101,100]⟩,vi 16000],vi 0]
theorem zvO:ze Tryz.prog 12 [lw3,.agg [vi 1,vb false,vb false,vb false,vs ⟨#[]⟩,vi 0]] (lw7):=zf (x:=xtK [kw3,kw6,kw9,zqZ,zq0,zq1,zq2,zq3,zq4,zq5,zq6,zq7,zq8,zq9]) (l:=zo) (fl:=zk) (wk:=zl) (lim:=900) (n:=60) (by decide +kernel)
def zsS:Kn Tryz.prog:=⟨12,[lw3,.agg [vi 1,vb false,vb false,vb false,vs ⟨#[]⟩,vi 0]],lw7,zvO⟩
def lw8:V:=.tup [.agg [vb true,.slc 5 [[vi 1,vs ⟨#[120]⟩,vs ⟨#[]⟩,vi 0,vi 0]],vs ⟨#[114,101,100]⟩,vi 16000,vi (-1)],vi 0]
theorem zvP:ze Tryz.prog 23 [lw3,.agg [vi 1,vb false,vb false,vb false,vs ⟨#[]⟩,vi 0],vi 1] (lw8):=zf (x:=xtK [kw3,kw6,kw9,zqZ,zq0,zq1,zq2,zq3,zq4,zq5,zq6,zq7,zq8,zq9,zsS]) (l:=zo) (fl:=zk) (wk:=zl) (lim:=900) (n:=60) (by decide +kernel)
def zu6:Kn Tryz.prog:=⟨23,[lw3,.agg [vi 1,vb false,vb false,vb false,vs ⟨#[]⟩,vi 0],vi 1],lw8,zvP⟩
theorem zvQ:ze Tryz.prog 51 [.slc 3 []] (.tup [zL,vi 0]):=zf (x:=xtK []) (l:=zo) (fl:=zk) (wk:=zl) (lim:=900) (n:=60) (by decide +kernel)
def zaO:Kn Tryz.prog:=⟨51,[.slc 3 []],.tup [zL,vi 0],zvQ⟩
theorem zvR:ze Tryz.prog 93 [.slc 3 []] (vb true):=zf (x:=xtK [zaO]) (l:=zo) (fl:=zk) (wk:=zl) (lim:=900) (n:=60) (by decide +kernel)
def zfM:Kn Tryz.prog:=⟨93,[.slc 3 []],vb true,zvR⟩
theorem zvS:ze Tryz.prog 51 [.slc 3 [[vi 6,vs ⟨#[120]⟩,vi 0]]] (.tup [.slc 1 [[vi (-1)]],vi 0]):=zf (x:=xtK []) (l:=zo) (fl:=zk) (wk:=zl) (lim:=900) (n:=60) (by decide +kernel)
def zc2:Kn Tryz.prog:=⟨51,[.slc 3 [[vi 6,vs ⟨#[120]⟩,vi 0]]],.tup [.slc 1 [[vi (-1)]],vi 0],zvS⟩
theorem zvT:ze Tryz.prog 93 [.slc 3 [[vi 6,vs ⟨#[120]⟩,vi 0]]] (vb true):=zf (x:=xtK [zaO,zc2]) (l:=zo) (fl:=zk) (wk:=zl) (lim:=900) (n:=60) (by decide +kernel)
def zfN:Kn Tryz.prog:=⟨93,[.slc 3 [[vi 6,vs ⟨#[120]⟩,vi 0]]],vb true,zvT⟩
def lw9:V:=.slc 3 [[vi 4,vs ⟨#[112,97,103,101]⟩,vi 0],[vi 12,vs ⟨#[123]⟩,vi 0],[vi 2,vs ⟨#[99,111,108,111,114]⟩,vi 0],[vi 14,vs ⟨#[]⟩,vi 0],[vi 2,vs ⟨#[114,101,100]⟩,vi 0],[vi 15,vs ⟨#[]⟩,vi 0],[vi 4,vs ⟨#[116,111,112,45,108,101,102,116]⟩,vi 0],[vi 12,vs ⟨#[123]⟩,vi 0],[vi 2,vs ⟨#[99,111,110,116,101,110,116]⟩,vi 0],[vi 14,vs ⟨#[]⟩,vi 0],[vi 6,vs ⟨#[120]⟩,vi 0],[vi 13,vs ⟨#[125]⟩,vi 0],[vi 13,vs ⟨#[125]⟩,vi 0]]
def ztm:V:=.tup [.agg [vs ⟨#[99,111,110,116,101,110,116]⟩,.slc 3 [[vi 6,vs ⟨#[120]⟩,vi 0]],vb false],vb true]
theorem zvU:ze Tryz.prog 116 [lw9,vi 8,vi 11] (ztm):=zf (x:=xtK [zfM,zfN]) (l:=zo) (fl:=zk) (wk:=zl) (lim:=900) (n:=60) (by decide +kernel)
def znT:Kn Tryz.prog:=⟨116,[lw9,vi 8,vi 11],ztm,zvU⟩
end Go.Proofs.YtlaopdfpncckeaaGreatDoor
