/- Part of the proof of ContextMargins. No condition. -/
import Derived.Test.YtlaopdfpncckeaaGreatDoorAw3
namespace Go.Proofs.YtlaopdfpncckeaaGreatDoor
open Go.Sx
set_option maxRecDepth 100000
theorem zwk:ze Tryz.prog 113 [yp,vi 11] (.tup [vi 11,vb false]):=zf (x:=xtK []) (l:=zo) (fl:=zk) (wk:=zl) (lim:=900) (n:=60) (by decide +kernel)
def ztc:Kn Tryz.prog:=⟨113,[yp,vi 11],.tup [vi 11,vb false],zwk⟩
def ztt:V:=.tup [.agg [vi 2,vs ⟨#[99,111,108,111,114]⟩,vi 0],vi 11]
theorem zwl:ze Tryz.prog 114 [yp,vi 6] (ztt):=zf (x:=xtK []) (l:=zo) (fl:=zk) (wk:=zl) (lim:=900) (n:=60) (by decide +kernel)
def ztd:Kn Tryz.prog:=⟨114,[yp,vi 6],ztt,zwl⟩
theorem zwm:ze Tryz.prog 113 [yp,vi 6] (.tup [vi 6,vb false]):=zf (x:=xtK []) (l:=zo) (fl:=zk) (wk:=zl) (lim:=900) (n:=60) (by decide +kernel)
def zte:Kn Tryz.prog:=⟨113,[yp,vi 6],.tup [vi 6,vb false],zwm⟩
theorem zwn:ze Tryz.prog 114 [yp,vi 5] (.tup [.agg [vi 12,vs ⟨#[123]⟩,vi 0],vi 6]):=zf (x:=xtK []) (l:=zo) (fl:=zk) (wk:=zl) (lim:=900) (n:=60) (by decide +kernel)
def ztf:Kn Tryz.prog:=⟨114,[yp,vi 5],.tup [.agg [vi 12,vs ⟨#[123]⟩,vi 0],vi 6],zwn⟩
theorem zwo:ze Tryz.prog 113 [yp,vi 5] (.tup [vi 5,vb false]):=zf (x:=xtK []) (l:=zo) (fl:=zk) (wk:=zl) (lim:=900) (n:=60) (by decide +kernel)
def ztg:Kn Tryz.prog:=⟨113,[yp,vi 5],.tup [vi 5,vb false],zwo⟩
theorem zwp:ze Tryz.prog 114 [yp,vi 0] (.tup [.agg [vi 4,vs ⟨#[112,97,103,101]⟩,vi 0],vi 5]):=zf (x:=xtK []) (l:=zo) (fl:=zk) (wk:=zl) (lim:=900) (n:=60) (by decide +kernel)
def zth:Kn Tryz.prog:=⟨114,[yp,vi 0],.tup [.agg [vi 4,vs ⟨#[112,97,103,101]⟩,vi 0],vi 5],zwp⟩
theorem zwq:ze Tryz.prog 113 [yp,vi 0] (.tup [vi 0,vb false]):=zf (x:=xtK []) (l:=zo) (fl:=zk) (wk:=zl) (lim:=900) (n:=60) (by decide +kernel)
def zti:Kn Tryz.prog:=⟨113,[yp,vi 0],.tup [vi 0,vb false],zwq⟩
def zfV:V:=.slc 1 [[.c (.int .u8 64)],[.c (.int .u8 112)],[.c (.int .u8 97)],[.c (.int .u8 103)],[.c (.int .u8 101)],[.c (.int .u8 123)],[.c (.int .u8 99)],[.c (.int .u8 111)],[.c (.int .u8 108)],[.c (.int .u8 111)],[.c (.int .u8 114)],[.c (.int .u8 58)],[.c (.int .u8 114)],[.c (.int .u8 101)],[.c (.int .u8 100)],[.c (.int .u8 59)],[.c (.int .u8 64)],[.c (.int .u8 116)],[.c (.int .u8 111)],[.c (.int .u8 112)],[.c (.int .u8 45)],[.c (.int .u8 108)],[.c (.int .u8 101)],[.c (.int .u8 102)],[.c (.int .u8 116)],[.c (.int .u8 123)],[.c (.int .u8 99)],[.c (.int .u8 111)],[.c (.int .u8 110)],[.c (.int .u8 116)],[.c (.int .u8 101)],[.c (.int .u8 110)],[.c (.int .u8 116)],[.c (.int .u8 58)],[.c (.int .u8 39)],[.c (.int .u8 120)],[.c (.int .u8 39)],[.c (.int .u8 125)],[.c (.int .u8 125)]]
theorem zwr:ze Tryz.prog 112 [zfV] (yp):=zf (x:=xtK []) (l:=zo) (fl:=zk) (wk:=zl) (lim:=900) (n:=60) (by decide +kernel)
def ztj:Kn Tryz.prog:=⟨112,[zfV],yp,zwr⟩
def ztu:V:=.tup [.slc 3 [[vi 4,vs ⟨#[112,97,103,101]⟩,vi 0],[vi 12,vs ⟨#[123]⟩,vi 0],[vi 2,vs ⟨#[99,111,108,111,114]⟩,vi 0],[vi 14,vs ⟨#[]⟩,vi 0],[vi 2,vs ⟨#[114,101,100]⟩,vi 0],[vi 15,vs ⟨#[]⟩,vi 0],[vi 4,vs ⟨#[116,111,112,45,108,101,102,116]⟩,vi 0],[vi 12,vs ⟨#[123]⟩,vi 0],[vi 2,vs ⟨#[99,111,110,116,101,110,116]⟩,vi 0],[vi 14,vs ⟨#[]⟩,vi 0],[vi 6,vs ⟨#[120]⟩,vi 0],[vi 13,vs ⟨#[125]⟩,vi 0],[vi 13,vs ⟨#[125]⟩,vi 0]],vi 0]
theorem zws:ze Tryz.prog 89 [zfV] (ztu):=zf (x:=xtK [zsT,zsU,zsV,zsW,zsX,zsY,zsZ,zs0,zs1,zs2,zs3,zs4,zs5,zs6,zs7,zs8,zs9,zta,ztb,ztc,ztd,zte,ztf,ztg,zth,zti,ztj]) (l:=zo) (fl:=zk) (wk:=zl) (lim:=900) (n:=60) (by decide +kernel)
def ztk:Kn Tryz.prog:=⟨89,[zfV],ztu,zws⟩
def ztv:V:=.tup [.slc 4 [[vi 2,.slc 3 [],.slc 3 [[vs ⟨#[99,111,108,111,114]⟩,.slc 3 [[vi 2,vs ⟨#[114,101,100]⟩,vi 0]],vb false]],.slc 2 [[vs ⟨#[116,111,112,45,108,101,102,116]⟩,.slc 3 [[vs ⟨#[99,111,110,116,101,110,116]⟩,.slc 3 [[vi 6,vs ⟨#[120]⟩,vi 0]],vb false]]]]]],vi 0]
theorem zwt:ze Tryz.prog 62 [zfV] (ztv):=zf (x:=xtK [zaO,zfM,zc2,zfN,ziW,zfO,ziX,znU,ziY,ztk]) (l:=zo) (fl:=zk) (wk:=zl) (lim:=900) (n:=60) (by decide +kernel)
def ztl:Kn Tryz.prog:=⟨62,[zfV],ztv,zwt⟩
def ztw:V:=vs ⟨#[64,112,97,103,101,123,99,111,108,111,114,58,114,101,100,59,64,116,111,112,45,108,101,102,116,123,99,111,110,116,101,110,116,58,39,120,39,125,125]⟩
def ztx:V:=.slc 4 [[vi 2,.slc 3 [],.slc 3 [[vs ⟨#[99,111,108,111,114]⟩,.slc 3 [[vi 2,vs ⟨#[114,101,100]⟩,vi 0]],vb false]],.slc 2 [[vs ⟨#[116,111,112,45,108,101,102,116]⟩,.slc 3 [[vs ⟨#[99,111,110,116,101,110,116]⟩,.slc 3 [[vi 6,vs ⟨#[120]⟩,vi 0]],vb false]]]]]]
theorem zwu:ze Tryz.prog 25 [ztw] (ztx):=zf (x:=xtK [ztl]) (l:=zo) (fl:=zk) (wk:=zl) (lim:=900) (n:=60) (by decide +kernel)
def zu7:Kn Tryz.prog:=⟨25,[ztw],ztx,zwu⟩
def jH:V:=.agg [vs ⟨#[109,97,114,103,105,110,45,116,111,112]⟩,.slc 3 [[vi 10,vs ⟨#[112,120]⟩,vi 2000]],vb false]
theorem zwv:ze Tryz.prog 72 [vi 9,jH] (vb false):=zf (x:=xtK []) (l:=zo) (fl:=zk) (wk:=zl) (lim:=900) (n:=60) (by decide +kernel)
def J0:Kn Tryz.prog:=⟨72,[vi 9,jH],vb false,zwv⟩
def zty:V:=.agg [vi 2,.slc 3 [[vi 14,vs ⟨#[]⟩,vi 0],[vi 2,vs ⟨#[108,101,102,116]⟩,vi 0]],.slc 3 [[vs ⟨#[109,97,114,103,105,110,45,116,111,112]⟩,.slc 3 [[vi 10,vs ⟨#[112,120]⟩,vi 2000]],vb false]],zL]
theorem zww:ze Tryz.prog 102 [zty,.agg [vi 2,vb false,vb false,vb false,vs ⟨#[]⟩,vi 0]] (.tup [.agg [vi 0,vi 0,vi 1],vb true]):=zf (x:=xtK []) (l:=zo) (fl:=zk) (wk:=zl) (lim:=900) (n:=60) (by decide +kernel)
def J1:Kn Tryz.prog:=⟨102,[zty,.agg [vi 2,vb false,vb false,vb false,vs ⟨#[]⟩,vi 0]],.tup [.agg [vi 0,vi 0,vi 1],vb true],zww⟩
def jI:V:=.agg [vs ⟨#[109,97,114,103,105,110]⟩,.slc 3 [[vi 10,vs ⟨#[112,120]⟩,vi 1000]],vb false]
theorem zwx:ze Tryz.prog 72 [vi 9,jI] (vb false):=zf (x:=xtK []) (l:=zo) (fl:=zk) (wk:=zl) (lim:=900) (n:=60) (by decide +kernel)
def J2:Kn Tryz.prog:=⟨72,[vi 9,jI],vb false,zwx⟩
def ztz:V:=.agg [vi 2,.slc 3 [],.slc 3 [[vs ⟨#[109,97,114,103,105,110]⟩,.slc 3 [[vi 10,vs ⟨#[112,120]⟩,vi 1000]],vb false]],zL]
theorem zwy:ze Tryz.prog 102 [ztz,.agg [vi 2,vb false,vb false,vb false,vs ⟨#[]⟩,vi 0]] (.tup [.agg [vi 0,vi 0,vi 0],vb true]):=zf (x:=xtK []) (l:=zo) (fl:=zk) (wk:=zl) (lim:=900) (n:=60) (by decide +kernel)
def J3:Kn Tryz.prog:=⟨102,[ztz,.agg [vi 2,vb false,vb false,vb false,vs ⟨#[]⟩,vi 0]],.tup [.agg [vi 0,vi 0,vi 0],vb true],zwy⟩
def k9:V:=.slc 1 [[.slc 4 [[vi 2,.slc 3 [],.slc 3 [[vs ⟨#[109,97,114,103,105,110]⟩,.slc 3 [[vi 10,vs ⟨#[112,120]⟩,vi 1000]],vb false]],zL],[vi 2,.slc 3 [[vi 14,vs ⟨#[]⟩,vi 0],[vi 2,vs ⟨#[108,101,102,116]⟩,vi 0]],.slc 3 [[vs ⟨#[109,97,114,103,105,110,45,116,111,112]⟩,.slc 3 [[vi 10,vs ⟨#[112,120]⟩,vi 2000]],vb false]],zL]]]]
theorem zwz:ze Tryz.prog 35 [k9,.agg [vi 2,vb false,vb false,vb false,vs ⟨#[]⟩,vi 0],vi (-1),vi 9] (lw4):=zf (x:=xtK [kw0,kw1,kw2,kw4,kw5,kw7,kw8,jk,jl,jD,jE,j6,j7,Zo,Zp,ZD,ZE,Z9,Ya,Yu,Yv,YW,YX,Qw,Qx,Ke,Kf,KV,KW,J0,J1,J2,J3]) (l:=zo) (fl:=zk) (wk:=zl) (lim:=900) (n:=60) (by decide +kernel)
def zu8:Kn Tryz.prog:=⟨35,[k9,.agg [vi 2,vb false,vb false,vb false,vs ⟨#[]⟩,vi 0],vi (-1),vi 9],lw4,zwz⟩
theorem zwA:ze Tryz.prog 72 [vi 8,jH] (vb false):=zf (x:=xtK []) (l:=zo) (fl:=zk) (wk:=zl) (lim:=900) (n:=60) (by decide +kernel)
def Wk:Kn Tryz.prog:=⟨72,[vi 8,jH],vb false,zwA⟩
theorem zwB:ze Tryz.prog 72 [vi 8,jI] (vb false):=zf (x:=xtK []) (l:=zo) (fl:=zk) (wk:=zl) (lim:=900) (n:=60) (by decide +kernel)
def Wl:Kn Tryz.prog:=⟨72,[vi 8,jI],vb false,zwB⟩
theorem zwC:ze Tryz.prog 35 [k9,.agg [vi 2,vb false,vb false,vb false,vs ⟨#[]⟩,vi 0],vi (-1),vi 8] (lw4):=zf (x:=xtK [kw0,kw1,kw2,kw4,kw5,kw7,kw8,jk,jl,jD,jE,j6,j7,Zo,Zp,ZD,ZE,Z9,Ya,Yu,Yv,YW,YX,Qw,Qx,Ke,Kf,KV,KW,J0,J1,J2,J3,Wk,Wl]) (l:=zo) (fl:=zk) (wk:=zl) (lim:=900) (n:=60) (by decide +kernel)
def zu9:Kn Tryz.prog:=⟨35,[k9,.agg [vi 2,vb false,vb false,vb false,vs ⟨#[]⟩,vi 0],vi (-1),vi 8],lw4,zwC⟩
theorem zwD:ze Tryz.prog 72 [vi 7,jH] (vb false):=zf (x:=xtK []) (l:=zo) (fl:=zk) (wk:=zl) (lim:=900) (n:=60) (by decide +kernel)
def zaP:Kn Tryz.prog:=⟨72,[vi 7,jH],vb false,zwD⟩
theorem zwE:ze Tryz.prog 72 [vi 7,jI] (vb false):=zf (x:=xtK []) (l:=zo) (fl:=zk) (wk:=zl) (lim:=900) (n:=60) (by decide +kernel)
def zaQ:Kn Tryz.prog:=⟨72,[vi 7,jI],vb false,zwE⟩
theorem zwF:ze Tryz.prog 35 [k9,.agg [vi 2,vb false,vb false,vb false,vs ⟨#[]⟩,vi 0],vi (-1),vi 7] (lw4):=zf (x:=xtK [kw0,kw1,kw2,kw4,kw5,kw7,kw8,jk,jl,jD,jE,j6,j7,Zo,Zp,ZD,ZE,Z9,Ya,Yu,Yv,YW,YX,Qw,Qx,Ke,Kf,KV,KW,J0,J1,J2,J3,Wk,Wl,zaP,zaQ]) (l:=zo) (fl:=zk) (wk:=zl) (lim:=900) (n:=60) (by decide +kernel)
def zva:Kn Tryz.prog:=⟨35,[k9,.agg [vi 2,vb false,vb false,vb false,vs ⟨#[]⟩,vi 0],vi (-1),vi 7],lw4,zwF⟩
theorem zwG:ze Tryz.prog 72 [vi 6,jH] (vb false):=zf (x:=xtK []) (l:=zo) (fl:=zk) (wk:=zl) (lim:=900) (n:=60) (by decide +kernel)
def zc3:Kn Tryz.prog:=⟨72,[vi 6,jH],vb false,zwG⟩
theorem zwH:ze Tryz.prog 72 [vi 6,jI] (vb false):=zf (x:=xtK []) (l:=zo) (fl:=zk) (wk:=zl) (lim:=900) (n:=60) (by decide +kernel)
def zc4:Kn Tryz.prog:=⟨72,[vi 6,jI],vb false,zwH⟩
theorem zwI:ze Tryz.prog 35 [k9,.agg [vi 2,vb false,vb false,vb false,vs ⟨#[]⟩,vi 0],vi (-1),vi 6] (lw4):=zf (x:=xtK [kw0,kw1,kw2,kw4,kw5,kw7,kw8,jk,jl,jD,jE,j6,j7,Zo,Zp,ZD,ZE,Z9,Ya,Yu,Yv,YW,YX,Qw,Qx,Ke,Kf,KV,KW,J0,J1,J2,J3,Wk,Wl,zaP,zaQ,zc3,zc4]) (l:=zo) (fl:=zk) (wk:=zl) (lim:=900) (n:=60) (by decide +kernel)
def zvb:Kn Tryz.prog:=⟨35,[k9,.agg [vi 2,vb false,vb false,vb false,vs ⟨#[]⟩,vi 0],vi (-1),vi 6],lw4,zwI⟩
end Go.Proofs.YtlaopdfpncckeaaGreatDoor
