/- Part of the proof of ContextMargins. No condition. -/
import Derived.Test.YtlaopdfpncckeaaGreatDoorAw4
namespace Go.Proofs.YtlaopdfpncckeaaGreatDoor
open Go.Sx
set_option maxRecDepth 100000
theorem ztS:ze Tryz.prog 72 [vi 5,jH] (vb false):=zf (x:=xtK []) (l:=zo) (fl:=zk) (wk:=zl) (lim:=900) (n:=60) (by decide +kernel)
def XG:Kn Tryz.prog:=⟨72,[vi 5,jH],vb false,ztS⟩
theorem ztT:ze Tryz.prog 72 [vi 5,jI] (vb false):=zf (x:=xtK []) (l:=zo) (fl:=zk) (wk:=zl) (lim:=900) (n:=60) (by decide +kernel)
def XH:Kn Tryz.prog:=⟨72,[vi 5,jI],vb false,ztT⟩
theorem ztU:ze Tryz.prog 35 [k9,.agg [vi 2,vb false,vb false,vb false,vs ⟨#[]⟩,vi 0],vi (-1),vi 5] (lw4):=zf (x:=xtK [kw0,kw1,kw2,kw4,kw5,kw7,kw8,jk,jl,jD,jE,j6,j7,Zo,Zp,ZD,ZE,Z9,Ya,Yu,Yv,YW,YX,Qw,Qx,Ke,Kf,KV,KW,J0,J1,J2,J3,Wk,Wl,zaP,zaQ,zc3,zc4,XG,XH]) (l:=zo) (fl:=zk) (wk:=zl) (lim:=900) (n:=60) (by decide +kernel)
def zsa:Kn Tryz.prog:=⟨35,[k9,.agg [vi 2,vb false,vb false,vb false,vs ⟨#[]⟩,vi 0],vi (-1),vi 5],lw4,ztU⟩
theorem ztV:ze Tryz.prog 72 [vi 4,jH] (vb false):=zf (x:=xtK []) (l:=zo) (fl:=zk) (wk:=zl) (lim:=900) (n:=60) (by decide +kernel)
def zaM:Kn Tryz.prog:=⟨72,[vi 4,jH],vb false,ztV⟩
theorem ztW:ze Tryz.prog 72 [vi 4,jI] (vb true):=zf (x:=xtK []) (l:=zo) (fl:=zk) (wk:=zl) (lim:=900) (n:=60) (by decide +kernel)
def zaN:Kn Tryz.prog:=⟨72,[vi 4,jI],vb true,ztW⟩
def zfW:V:=.tup [.agg [vs ⟨#[109,97,114,103,105,110]⟩,.slc 3 [[vi 10,vs ⟨#[112,120]⟩,vi 1000]],vb false],.agg [vi 0,vi 0,vi 0,vi 0,vi 0],vb true]
theorem ztX:ze Tryz.prog 35 [k9,.agg [vi 2,vb false,vb false,vb false,vs ⟨#[]⟩,vi 0],vi (-1),vi 4] (zfW):=zf (x:=xtK [kw0,kw1,kw2,kw4,kw5,kw7,kw8,jk,jl,jD,jE,j6,j7,Zo,Zp,ZD,ZE,Z9,Ya,Yu,Yv,YW,YX,Qw,Qx,Ke,Kf,KV,KW,J0,J1,J2,J3,Wk,Wl,zaP,zaQ,zc3,zc4,XG,XH,zaM,zaN]) (l:=zo) (fl:=zk) (wk:=zl) (lim:=900) (n:=60) (by decide +kernel)
def zsb:Kn Tryz.prog:=⟨35,[k9,.agg [vi 2,vb false,vb false,vb false,vs ⟨#[]⟩,vi 0],vi (-1),vi 4],zfW,ztX⟩
theorem ztY:ze Tryz.prog 72 [vi 3,jH] (vb false):=zf (x:=xtK []) (l:=zo) (fl:=zk) (wk:=zl) (lim:=900) (n:=60) (by decide +kernel)
def zeA:Kn Tryz.prog:=⟨72,[vi 3,jH],vb false,ztY⟩
theorem ztZ:ze Tryz.prog 72 [vi 3,jI] (vb true):=zf (x:=xtK []) (l:=zo) (fl:=zk) (wk:=zl) (lim:=900) (n:=60) (by decide +kernel)
def zeB:Kn Tryz.prog:=⟨72,[vi 3,jI],vb true,ztZ⟩
theorem zt0:ze Tryz.prog 35 [k9,.agg [vi 2,vb false,vb false,vb false,vs ⟨#[]⟩,vi 0],vi (-1),vi 3] (zfW):=zf (x:=xtK [kw0,kw1,kw2,kw4,kw5,kw7,kw8,jk,jl,jD,jE,j6,j7,Zo,Zp,ZD,ZE,Z9,Ya,Yu,Yv,YW,YX,Qw,Qx,Ke,Kf,KV,KW,J0,J1,J2,J3,Wk,Wl,zaP,zaQ,zc3,zc4,XG,XH,zaM,zaN,zeA,zeB]) (l:=zo) (fl:=zk) (wk:=zl) (lim:=900) (n:=60) (by decide +kernel)
def zsc:Kn Tryz.prog:=⟨35,[k9,.agg [vi 2,vb false,vb false,vb false,vs ⟨#[]⟩,vi 0],vi (-1),vi 3],zfW,zt0⟩
theorem zt1:ze Tryz.prog 72 [vi 2,jH] (vb false):=zf (x:=xtK []) (l:=zo) (fl:=zk) (wk:=zl) (lim:=900) (n:=60) (by decide +kernel)
def ziR:Kn Tryz.prog:=⟨72,[vi 2,jH],vb false,zt1⟩
theorem zt2:ze Tryz.prog 72 [vi 2,jI] (vb true):=zf (x:=xtK []) (l:=zo) (fl:=zk) (wk:=zl) (lim:=900) (n:=60) (by decide +kernel)
def ziS:Kn Tryz.prog:=⟨72,[vi 2,jI],vb true,zt2⟩
theorem zt3:ze Tryz.prog 35 [k9,.agg [vi 2,vb false,vb false,vb false,vs ⟨#[]⟩,vi 0],vi (-1),vi 2] (zfW):=zf (x:=xtK [kw0,kw1,kw2,kw4,kw5,kw7,kw8,jk,jl,jD,jE,j6,j7,Zo,Zp,ZD,ZE,Z9,Ya,Yu,Yv,YW,YX,Qw,Qx,Ke,Kf,KV,KW,J0,J1,J2,J3,Wk,Wl,zaP,zaQ,zc3,zc4,XG,XH,zaM,zaN,zeA,zeB,ziR,ziS]) (l:=zo) (fl:=zk) (wk:=zl) (lim:=900) (n:=60) (by decide +kernel)
def zsd:Kn Tryz.prog:=⟨35,[k9,.agg [vi 2,vb false,vb false,vb false,vs ⟨#[]⟩,vi 0],vi (-1),vi 2],zfW,zt3⟩
theorem zt4:ze Tryz.prog 72 [vi 1,jH] (vb true):=zf (x:=xtK []) (l:=zo) (fl:=zk) (wk:=zl) (lim:=900) (n:=60) (by decide +kernel)
def zpu:Kn Tryz.prog:=⟨72,[vi 1,jH],vb true,zt4⟩
theorem zt5:ze Tryz.prog 72 [vi 1,jI] (vb true):=zf (x:=xtK []) (l:=zo) (fl:=zk) (wk:=zl) (lim:=900) (n:=60) (by decide +kernel)
def zpv:Kn Tryz.prog:=⟨72,[vi 1,jI],vb true,zt5⟩
def ztA:V:=.tup [.agg [vs ⟨#[109,97,114,103,105,110,45,116,111,112]⟩,.slc 3 [[vi 10,vs ⟨#[112,120]⟩,vi 2000]],vb false],.agg [vi 0,vi 0,vi 0,vi 1,vi 1],vb true]
theorem zt6:ze Tryz.prog 35 [k9,.agg [vi 2,vb false,vb false,vb false,vs ⟨#[]⟩,vi 0],vi (-1),vi 1] (ztA):=zf (x:=xtK [kw0,kw1,kw2,kw4,kw5,kw7,kw8,jk,jl,jD,jE,j6,j7,Zo,Zp,ZD,ZE,Z9,Ya,Yu,Yv,YW,YX,Qw,Qx,Ke,Kf,KV,KW,J0,J1,J2,J3,Wk,Wl,zaP,zaQ,zc3,zc4,XG,XH,zaM,zaN,zeA,zeB,ziR,ziS,zpu,zpv]) (l:=zo) (fl:=zk) (wk:=zl) (lim:=900) (n:=60) (by decide +kernel)
def zse:Kn Tryz.prog:=⟨35,[k9,.agg [vi 2,vb false,vb false,vb false,vs ⟨#[]⟩,vi 0],vi (-1),vi 1],ztA,zt6⟩
theorem zt7:ze Tryz.prog 72 [vi 0,jH] (vb false):=zf (x:=xtK []) (l:=zo) (fl:=zk) (wk:=zl) (lim:=900) (n:=60) (by decide +kernel)
def zsf:Kn Tryz.prog:=⟨72,[vi 0,jH],vb false,zt7⟩
theorem zt8:ze Tryz.prog 72 [vi 0,jI] (vb false):=zf (x:=xtK []) (l:=zo) (fl:=zk) (wk:=zl) (lim:=900) (n:=60) (by decide +kernel)
def zsg:Kn Tryz.prog:=⟨72,[vi 0,jI],vb false,zt8⟩
theorem zt9:ze Tryz.prog 35 [k9,.agg [vi 2,vb false,vb false,vb false,vs ⟨#[]⟩,vi 0],vi (-1),vi 0] (lw4):=zf (x:=xtK [kw0,kw1,kw2,kw4,kw5,kw7,kw8,jk,jl,jD,jE,j6,j7,Zo,Zp,ZD,ZE,Z9,Ya,Yu,Yv,YW,YX,Qw,Qx,Ke,Kf,KV,KW,J0,J1,J2,J3,Wk,Wl,zaP,zaQ,zc3,zc4,XG,XH,zaM,zaN,zeA,zeB,ziR,ziS,zpu,zpv,zsf,zsg]) (l:=zo) (fl:=zk) (wk:=zl) (lim:=900) (n:=60) (by decide +kernel)
def zsh:Kn Tryz.prog:=⟨35,[k9,.agg [vi 2,vb false,vb false,vb false,vs ⟨#[]⟩,vi 0],vi (-1),vi 0],lw4,zt9⟩
def ztB:V:=.tup [.agg [vi 793700,vi 1122519,vi 2000,vi 1000,vi 1000,vi 1000,zL,zL,zL,vs ⟨#[98,108,97,99,107]⟩,vi 16000],vi 0]
theorem zua:ze Tryz.prog 12 [k9,.agg [vi 2,vb false,vb false,vb false,vs ⟨#[]⟩,vi 0]] (ztB):=zf (x:=xtK [kw3,kw6,kw9,zqZ,zq0,zq1,zq2,zq3,zq4,zq5,zq6,zq7,zq8,zq9,zu8,zu9,zva,zvb,zsa,zsb,zsc,zsd,zse,zsh]) (l:=zo) (fl:=zk) (wk:=zl) (lim:=900) (n:=60) (by decide +kernel)
def zsi:Kn Tryz.prog:=⟨12,[k9,.agg [vi 2,vb false,vb false,vb false,vs ⟨#[]⟩,vi 0]],ztB,zua⟩
def znY:V:=.slc 3 [[vi 14,vs ⟨#[]⟩,vi 0],[vi 2,vs ⟨#[108,101,102,116]⟩,vi 0]]
theorem zub:ze Tryz.prog 51 [znY] (.tup [.slc 1 [[vi (-1)],[vi (-1)]],vi 0]):=zf (x:=xtK []) (l:=zo) (fl:=zk) (wk:=zl) (lim:=900) (n:=60) (by decide +kernel)
def zeC:Kn Tryz.prog:=⟨51,[znY],.tup [.slc 1 [[vi (-1)],[vi (-1)]],vi 0],zub⟩
theorem zuc:ze Tryz.prog 93 [znY] (vb true):=zf (x:=xtK [zaO,zc2,zfO,ziY,zeC]) (l:=zo) (fl:=zk) (wk:=zl) (lim:=900) (n:=60) (by decide +kernel)
def ziT:Kn Tryz.prog:=⟨93,[znY],vb true,zuc⟩
theorem zud:ze Tryz.prog 51 [.slc 3 [[vi 10,vs ⟨#[112,120]⟩,vi 2000]]] (.tup [.slc 1 [[vi (-1)]],vi 0]):=zf (x:=xtK []) (l:=zo) (fl:=zk) (wk:=zl) (lim:=900) (n:=60) (by decide +kernel)
def ziU:Kn Tryz.prog:=⟨51,[.slc 3 [[vi 10,vs ⟨#[112,120]⟩,vi 2000]]],.tup [.slc 1 [[vi (-1)]],vi 0],zud⟩
theorem zue:ze Tryz.prog 93 [.slc 3 [[vi 10,vs ⟨#[112,120]⟩,vi 2000]]] (vb true):=zf (x:=xtK [zaO,zc2,zfO,ziY,zeC,ziU]) (l:=zo) (fl:=zk) (wk:=zl) (lim:=900) (n:=60) (by decide +kernel)
def ziV:Kn Tryz.prog:=⟨93,[.slc 3 [[vi 10,vs ⟨#[112,120]⟩,vi 2000]]],vb true,zue⟩
def J7:V:=.slc 3 [[vi 4,vs ⟨#[112,97,103,101]⟩,vi 0],[vi 12,vs ⟨#[123]⟩,vi 0],[vi 2,vs ⟨#[109,97,114,103,105,110]⟩,vi 0],[vi 14,vs ⟨#[]⟩,vi 0],[vi 10,vs ⟨#[112,120]⟩,vi 1000],[vi 13,vs ⟨#[125]⟩,vi 0],[vi 1,vs ⟨#[]⟩,vi 0],[vi 4,vs ⟨#[112,97,103,101]⟩,vi 0],[vi 1,vs ⟨#[]⟩,vi 0],[vi 14,vs ⟨#[]⟩,vi 0],[vi 2,vs ⟨#[108,101,102,116]⟩,vi 0],[vi 12,vs ⟨#[123]⟩,vi 0],[vi 2,vs ⟨#[109,97,114,103,105,110,45,116,111,112]⟩,vi 0],[vi 14,vs ⟨#[]⟩,vi 0],[vi 10,vs ⟨#[112,120]⟩,vi 2000],[vi 13,vs ⟨#[125]⟩,vi 0]]
def ztC:V:=.tup [.agg [vs ⟨#[109,97,114,103,105,110,45,116,111,112]⟩,.slc 3 [[vi 10,vs ⟨#[112,120]⟩,vi 2000]],vb false],vb true]
theorem zuf:ze Tryz.prog 116 [J7,vi 12,vi 15] (ztC):=zf (x:=xtK [zfM,zfN,ziX,ziT,ziV]) (l:=zo) (fl:=zk) (wk:=zl) (lim:=900) (n:=60) (by decide +kernel)
def zpw:Kn Tryz.prog:=⟨116,[J7,vi 12,vi 15],ztC,zuf⟩
def znZ:V:=.slc 1 [[vi (-1)],[vi 5],[vi (-1)],[vi (-1)],[vi (-1)],[vi (-1)],[vi (-1)],[vi (-1)],[vi (-1)],[vi (-1)],[vi (-1)],[vi 15],[vi (-1)],[vi (-1)],[vi (-1)],[vi (-1)]]
def ztD:V:=.tup [.slc 3 [[vs ⟨#[109,97,114,103,105,110,45,116,111,112]⟩,.slc 3 [[vi 10,vs ⟨#[112,120]⟩,vi 2000]],vb false]],zL]
theorem zug:ze Tryz.prog 92 [J7,znZ,vi 12,vi 15,vb true] (ztD):=zf (x:=xtK [znT,ziW,zra,znU,zpw]) (l:=zo) (fl:=zk) (wk:=zl) (lim:=900) (n:=60) (by decide +kernel)
def zpx:Kn Tryz.prog:=⟨92,[J7,znZ,vi 12,vi 15,vb true],ztD,zug⟩
end Go.Proofs.YtlaopdfpncckeaaGreatDoor
