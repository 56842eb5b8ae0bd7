/- Part of the proof of ContextOthers. No condition. -/
import Derived.Test.YtlaopdfpncckeaaGreatDoorAw6
namespace Go.Proofs.YtlaopdfpncckeaaGreatDoor
open Go.Sx
set_option maxRecDepth 100000
theorem zAi:ze Tryz.prog 114 [ye,vi 12] (.tup [.agg [vi 14,vs ⟨#[]⟩,vi 0],vi 13]):=zg (x:=xtK []) (l:=zr) (fl:=zm) (wk:=zn) (lim:=900) (n:=60) (by decide +kernel)
def zye:Kn Tryz.prog:=⟨114,[ye,vi 12],.tup [.agg [vi 14,vs ⟨#[]⟩,vi 0],vi 13],zAi⟩
theorem zAj:ze Tryz.prog 113 [ye,vi 12] (.tup [vi 12,vb false]):=zg (x:=xtK []) (l:=zr) (fl:=zm) (wk:=zn) (lim:=900) (n:=60) (by decide +kernel)
def zyf:Kn Tryz.prog:=⟨113,[ye,vi 12],.tup [vi 12,vb false],zAj⟩
def zzg:V:=.tup [.agg [vi 2,vs ⟨#[109,97,114,103,105,110]⟩,vi 0],vi 12]
theorem zAk:ze Tryz.prog 114 [ye,vi 6] (zzg):=zg (x:=xtK []) (l:=zr) (fl:=zm) (wk:=zn) (lim:=900) (n:=60) (by decide +kernel)
def zyg:Kn Tryz.prog:=⟨114,[ye,vi 6],zzg,zAk⟩
theorem zAl:ze Tryz.prog 113 [ye,vi 6] (.tup [vi 6,vb false]):=zg (x:=xtK []) (l:=zr) (fl:=zm) (wk:=zn) (lim:=900) (n:=60) (by decide +kernel)
def zyh:Kn Tryz.prog:=⟨113,[ye,vi 6],.tup [vi 6,vb false],zAl⟩
theorem zAm:ze Tryz.prog 114 [ye,vi 5] (.tup [.agg [vi 12,vs ⟨#[123]⟩,vi 0],vi 6]):=zg (x:=xtK []) (l:=zr) (fl:=zm) (wk:=zn) (lim:=900) (n:=60) (by decide +kernel)
def zyi:Kn Tryz.prog:=⟨114,[ye,vi 5],.tup [.agg [vi 12,vs ⟨#[123]⟩,vi 0],vi 6],zAm⟩
theorem zAn:ze Tryz.prog 113 [ye,vi 5] (.tup [vi 5,vb false]):=zg (x:=xtK []) (l:=zr) (fl:=zm) (wk:=zn) (lim:=900) (n:=60) (by decide +kernel)
def zyj:Kn Tryz.prog:=⟨113,[ye,vi 5],.tup [vi 5,vb false],zAn⟩
theorem zAo:ze Tryz.prog 114 [ye,vi 0] (.tup [.agg [vi 4,vs ⟨#[112,97,103,101]⟩,vi 0],vi 5]):=zg (x:=xtK []) (l:=zr) (fl:=zm) (wk:=zn) (lim:=900) (n:=60) (by decide +kernel)
def zyk:Kn Tryz.prog:=⟨114,[ye,vi 0],.tup [.agg [vi 4,vs ⟨#[112,97,103,101]⟩,vi 0],vi 5],zAo⟩
theorem zAp:ze Tryz.prog 113 [ye,vi 0] (.tup [vi 0,vb false]):=zg (x:=xtK []) (l:=zr) (fl:=zm) (wk:=zn) (lim:=900) (n:=60) (by decide +kernel)
def zyl:Kn Tryz.prog:=⟨113,[ye,vi 0],.tup [vi 0,vb false],zAp⟩
def zi7:V:=.slc 1 [[.c (.int .u8 64)],[.c (.int .u8 112)],[.c (.int .u8 97)],[.c (.int .u8 103)],[.c (.int .u8 101)],[.c (.int .u8 123)],[.c (.int .u8 109)],[.c (.int .u8 97)],[.c (.int .u8 114)],[.c (.int .u8 103)],[.c (.int .u8 105)],[.c (.int .u8 110)],[.c (.int .u8 58)],[.c (.int .u8 49)],[.c (.int .u8 112)],[.c (.int .u8 120)],[.c (.int .u8 125)],[.c (.int .u8 32)],[.c (.int .u8 64)],[.c (.int .u8 112)],[.c (.int .u8 97)],[.c (.int .u8 103)],[.c (.int .u8 101)],[.c (.int .u8 32)],[.c (.int .u8 58)],[.c (.int .u8 108)],[.c (.int .u8 101)],[.c (.int .u8 102)],[.c (.int .u8 116)],[.c (.int .u8 123)],[.c (.int .u8 109)],[.c (.int .u8 97)],[.c (.int .u8 114)],[.c (.int .u8 103)],[.c (.int .u8 105)],[.c (.int .u8 110)],[.c (.int .u8 45)],[.c (.int .u8 116)],[.c (.int .u8 111)],[.c (.int .u8 112)],[.c (.int .u8 58)],[.c (.int .u8 50)],[.c (.int .u8 112)],[.c (.int .u8 120)],[.c (.int .u8 125)]]
theorem zAq:ze Tryz.prog 112 [zi7] (ye):=zg (x:=xtK []) (l:=zr) (fl:=zm) (wk:=zn) (lim:=900) (n:=60) (by decide +kernel)
def zym:Kn Tryz.prog:=⟨112,[zi7],ye,zAq⟩
def zzh:V:=.tup [.slc 3 [[vi 4,vs ⟨#[112,97,103,101]⟩,vi 0],[vi 12,vs ⟨#[123]⟩,vi 0],[vi 2,vs ⟨#[109,97,114,103,105,110]⟩,vi 0],[vi 14,vs ⟨#[]⟩,vi 0],[vi 10,vs ⟨#[112,120]⟩,vi 1000],[vi 13,vs ⟨#[125]⟩,vi 0],[vi 1,vs ⟨#[]⟩,vi 0],[vi 4,vs ⟨#[112,97,103,101]⟩,vi 0],[vi 1,vs ⟨#[]⟩,vi 0],[vi 14,vs ⟨#[]⟩,vi 0],[vi 2,vs ⟨#[108,101,102,116]⟩,vi 0],[vi 12,vs ⟨#[123]⟩,vi 0],[vi 2,vs ⟨#[109,97,114,103,105,110,45,116,111,112]⟩,vi 0],[vi 14,vs ⟨#[]⟩,vi 0],[vi 10,vs ⟨#[112,120]⟩,vi 2000],[vi 13,vs ⟨#[125]⟩,vi 0]],vi 0]
theorem zAr:ze Tryz.prog 89 [zi7] (zzh):=zg (x:=xtK [zyr,zys,zyt,zyu,zyv,zyw,zyx,zyy,zyz,zyA,zyB,zyC,zyD,zyE,zyF,zyG,zyH,zyI,zyJ,zyK,zyL,zyM,zyN,zyO,zyP,zyQ,zyR,zxU,zxV,zxW,zxX,zxY,zxZ,zx0,zx1,zx2,zx3,zx4,zx5,zx6,zx7,zx8,zx9,zya,zyb,zyc,zyd,zye,zyf,zyg,zyh,zyi,zyj,zyk,zyl,zym]) (l:=zr) (fl:=zm) (wk:=zn) (lim:=900) (n:=60) (by decide +kernel)
def zyn:Kn Tryz.prog:=⟨89,[zi7],zzh,zAr⟩
def zzi:V:=.tup [.slc 4 [[vi 2,.slc 3 [],.slc 3 [[vs ⟨#[109,97,114,103,105,110]⟩,.slc 3 [[vi 10,vs ⟨#[112,120]⟩,vi 1000]],vb false]],zB],[vi 2,.slc 3 [[vi 14,vs ⟨#[]⟩,vi 0],[vi 2,vs ⟨#[108,101,102,116]⟩,vi 0]],.slc 3 [[vs ⟨#[109,97,114,103,105,110,45,116,111,112]⟩,.slc 3 [[vi 10,vs ⟨#[112,120]⟩,vi 2000]],vb false]],zB]],vi 0]
theorem zAs:ze Tryz.prog 62 [zi7] (zzi):=zg (x:=xtK [zc3,ziW,zfL,ziX,zmM,ziY,zmN,zsH,zmO,zyS,zhR,zmJ,zmK,zmL,zuy,zuz,zuA,zxS,zxT,zyn]) (l:=zr) (fl:=zm) (wk:=zn) (lim:=900) (n:=60) (by decide +kernel)
def zyo:Kn Tryz.prog:=⟨62,[zi7],zzi,zAs⟩
def zzj:V:=vs ⟨#[64,112,97,103,101,123,109,97,114,103,105,110,58,49,112,120,125,32,64,112,97,103,101,32,58,108,101,102,116,123,109,97,114,103,105,110,45,116,111,112,58,50,112,120,125]⟩
def zzk:V:=.slc 4 [[vi 2,.slc 3 [],.slc 3 [[vs ⟨#[109,97,114,103,105,110]⟩,.slc 3 [[vi 10,vs ⟨#[112,120]⟩,vi 1000]],vb false]],zB],[vi 2,.slc 3 [[vi 14,vs ⟨#[]⟩,vi 0],[vi 2,vs ⟨#[108,101,102,116]⟩,vi 0]],.slc 3 [[vs ⟨#[109,97,114,103,105,110,45,116,111,112]⟩,.slc 3 [[vi 10,vs ⟨#[112,120]⟩,vi 2000]],vb false]],zB]]
theorem zAt:ze Tryz.prog 25 [zzj] (zzk):=zg (x:=xtK [zyT,zyo]) (l:=zr) (fl:=zm) (wk:=zn) (lim:=900) (n:=60) (by decide +kernel)
def zyp:Kn Tryz.prog:=⟨25,[zzj],zzk,zAt⟩
theorem zlA:ze Tryz.prog 8 [] (vb true):=zg (x:=xtK [zyq,zAG,zAH,zxQ,zyp]) (l:=zr) (fl:=zm) (wk:=zn) (lim:=900) (n:=60) (by decide +kernel)
end Go.Proofs.YtlaopdfpncckeaaGreatDoor
