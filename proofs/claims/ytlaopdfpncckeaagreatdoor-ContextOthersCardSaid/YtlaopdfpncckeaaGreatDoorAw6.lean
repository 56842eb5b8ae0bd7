/- Part of the proof of ContextOthers. No condition. -/
import Derived.Test.YtlaopdfpncckeaaGreatDoorAw5
namespace Go.Proofs.YtlaopdfpncckeaaGreatDoor
open Go.Sx
set_option maxRecDepth 100000
theorem zzT:ze Tryz.prog 51 [.slc 3 [[vi 10,vs ⟨#[112,120]⟩,vi 1000]]] (.tup [.slc 1 [[vi (-1)]],vi 0]):=zg (x:=xtK []) (l:=zr) (fl:=zm) (wk:=zn) (lim:=900) (n:=60) (by decide +kernel)
def zuz:Kn Tryz.prog:=⟨51,[.slc 3 [[vi 10,vs ⟨#[112,120]⟩,vi 1000]]],.tup [.slc 1 [[vi (-1)]],vi 0],zzT⟩
theorem zzU:ze Tryz.prog 93 [.slc 3 [[vi 10,vs ⟨#[112,120]⟩,vi 1000]]] (vb true):=zg (x:=xtK [zc3,zfL,ziY,zmO,zhR,zmK,zuz]) (l:=zr) (fl:=zm) (wk:=zn) (lim:=900) (n:=60) (by decide +kernel)
def zuA:Kn Tryz.prog:=⟨93,[.slc 3 [[vi 10,vs ⟨#[112,120]⟩,vi 1000]]],vb true,zzU⟩
def zzc:V:=.tup [.agg [vs ⟨#[109,97,114,103,105,110]⟩,.slc 3 [[vi 10,vs ⟨#[112,120]⟩,vi 1000]],vb false],vb true]
theorem zzV:ze Tryz.prog 116 [W0,vi 2,vi 5] (zzc):=zg (x:=xtK [ziW,ziX,zmN,zmJ,zmL,zuA]) (l:=zr) (fl:=zm) (wk:=zn) (lim:=900) (n:=60) (by decide +kernel)
def zxR:Kn Tryz.prog:=⟨116,[W0,vi 2,vi 5],zzc,zzV⟩
def zzd:V:=.tup [.slc 3 [[vs ⟨#[109,97,114,103,105,110]⟩,.slc 3 [[vi 10,vs ⟨#[112,120]⟩,vi 1000]],vb false]],zB]
theorem zzW:ze Tryz.prog 92 [W0,zsN,vi 2,vi 5,vb true] (zzd):=zg (x:=xtK [zsG,zmM,zwI,zsH,zux,zuy,zxR]) (l:=zr) (fl:=zm) (wk:=zn) (lim:=900) (n:=60) (by decide +kernel)
def zxS:Kn Tryz.prog:=⟨92,[W0,zsN,vi 2,vi 5,vb true],zzd,zzW⟩
def zze:V:=.tup [.slc 1 [[vi (-1)],[vi 5],[vi (-1)],[vi (-1)],[vi (-1)],[vi (-1)],[vi (-1)],[vi (-1)],[vi (-1)],[vi (-1)],[vi (-1)],[vi 15],[vi (-1)],[vi (-1)],[vi (-1)],[vi (-1)]],vi 0]
theorem zzX:ze Tryz.prog 51 [W0] (zze):=zg (x:=xtK []) (l:=zr) (fl:=zm) (wk:=zn) (lim:=900) (n:=60) (by decide +kernel)
def zxT:Kn Tryz.prog:=⟨51,[W0],zze,zzX⟩
def ye:V:=.slc 1 [[vi 64],[vi 112],[vi 97],[vi 103],[vi 101],[vi 123],[vi 109],[vi 97],[vi 114],[vi 103],[vi 105],[vi 110],[vi 58],[vi 49],[vi 112],[vi 120],[vi 125],[vi 32],[vi 64],[vi 112],[vi 97],[vi 103],[vi 101],[vi 32],[vi 58],[vi 108],[vi 101],[vi 102],[vi 116],[vi 123],[vi 109],[vi 97],[vi 114],[vi 103],[vi 105],[vi 110],[vi 45],[vi 116],[vi 111],[vi 112],[vi 58],[vi 50],[vi 112],[vi 120],[vi 125]]
theorem zzY:ze Tryz.prog 114 [ye,vi 44] (.tup [.agg [vi 13,vs ⟨#[125]⟩,vi 0],vi 45]):=zg (x:=xtK []) (l:=zr) (fl:=zm) (wk:=zn) (lim:=900) (n:=60) (by decide +kernel)
def zxU:Kn Tryz.prog:=⟨114,[ye,vi 44],.tup [.agg [vi 13,vs ⟨#[125]⟩,vi 0],vi 45],zzY⟩
theorem zzZ:ze Tryz.prog 113 [ye,vi 44] (.tup [vi 44,vb false]):=zg (x:=xtK []) (l:=zr) (fl:=zm) (wk:=zn) (lim:=900) (n:=60) (by decide +kernel)
def zxV:Kn Tryz.prog:=⟨113,[ye,vi 44],.tup [vi 44,vb false],zzZ⟩
theorem zz0:ze Tryz.prog 114 [ye,vi 41] (.tup [.agg [vi 10,vs ⟨#[112,120]⟩,vi 2000],vi 44]):=zg (x:=xtK []) (l:=zr) (fl:=zm) (wk:=zn) (lim:=900) (n:=60) (by decide +kernel)
def zxW:Kn Tryz.prog:=⟨114,[ye,vi 41],.tup [.agg [vi 10,vs ⟨#[112,120]⟩,vi 2000],vi 44],zz0⟩
theorem zz1:ze Tryz.prog 113 [ye,vi 41] (.tup [vi 41,vb false]):=zg (x:=xtK []) (l:=zr) (fl:=zm) (wk:=zn) (lim:=900) (n:=60) (by decide +kernel)
def zxX:Kn Tryz.prog:=⟨113,[ye,vi 41],.tup [vi 41,vb false],zz1⟩
theorem zz2:ze Tryz.prog 114 [ye,vi 40] (.tup [.agg [vi 14,vs ⟨#[]⟩,vi 0],vi 41]):=zg (x:=xtK []) (l:=zr) (fl:=zm) (wk:=zn) (lim:=900) (n:=60) (by decide +kernel)
def zxY:Kn Tryz.prog:=⟨114,[ye,vi 40],.tup [.agg [vi 14,vs ⟨#[]⟩,vi 0],vi 41],zz2⟩
theorem zz3:ze Tryz.prog 113 [ye,vi 40] (.tup [vi 40,vb false]):=zg (x:=xtK []) (l:=zr) (fl:=zm) (wk:=zn) (lim:=900) (n:=60) (by decide +kernel)
def zxZ:Kn Tryz.prog:=⟨113,[ye,vi 40],.tup [vi 40,vb false],zz3⟩
def zzf:V:=.tup [.agg [vi 2,vs ⟨#[109,97,114,103,105,110,45,116,111,112]⟩,vi 0],vi 40]
theorem zz4:ze Tryz.prog 114 [ye,vi 30] (zzf):=zg (x:=xtK []) (l:=zr) (fl:=zm) (wk:=zn) (lim:=900) (n:=60) (by decide +kernel)
def zx0:Kn Tryz.prog:=⟨114,[ye,vi 30],zzf,zz4⟩
theorem zz5:ze Tryz.prog 113 [ye,vi 30] (.tup [vi 30,vb false]):=zg (x:=xtK []) (l:=zr) (fl:=zm) (wk:=zn) (lim:=900) (n:=60) (by decide +kernel)
def zx1:Kn Tryz.prog:=⟨113,[ye,vi 30],.tup [vi 30,vb false],zz5⟩
theorem zz6:ze Tryz.prog 114 [ye,vi 29] (.tup [.agg [vi 12,vs ⟨#[123]⟩,vi 0],vi 30]):=zg (x:=xtK []) (l:=zr) (fl:=zm) (wk:=zn) (lim:=900) (n:=60) (by decide +kernel)
def zx2:Kn Tryz.prog:=⟨114,[ye,vi 29],.tup [.agg [vi 12,vs ⟨#[123]⟩,vi 0],vi 30],zz6⟩
theorem zz7:ze Tryz.prog 113 [ye,vi 29] (.tup [vi 29,vb false]):=zg (x:=xtK []) (l:=zr) (fl:=zm) (wk:=zn) (lim:=900) (n:=60) (by decide +kernel)
def zx3:Kn Tryz.prog:=⟨113,[ye,vi 29],.tup [vi 29,vb false],zz7⟩
theorem zz8:ze Tryz.prog 114 [ye,vi 25] (.tup [.agg [vi 2,vs ⟨#[108,101,102,116]⟩,vi 0],vi 29]):=zg (x:=xtK []) (l:=zr) (fl:=zm) (wk:=zn) (lim:=900) (n:=60) (by decide +kernel)
def zx4:Kn Tryz.prog:=⟨114,[ye,vi 25],.tup [.agg [vi 2,vs ⟨#[108,101,102,116]⟩,vi 0],vi 29],zz8⟩
theorem zz9:ze Tryz.prog 113 [ye,vi 25] (.tup [vi 25,vb false]):=zg (x:=xtK []) (l:=zr) (fl:=zm) (wk:=zn) (lim:=900) (n:=60) (by decide +kernel)
def zx5:Kn Tryz.prog:=⟨113,[ye,vi 25],.tup [vi 25,vb false],zz9⟩
theorem zAa:ze Tryz.prog 114 [ye,vi 24] (.tup [.agg [vi 14,vs ⟨#[]⟩,vi 0],vi 25]):=zg (x:=xtK []) (l:=zr) (fl:=zm) (wk:=zn) (lim:=900) (n:=60) (by decide +kernel)
def zx6:Kn Tryz.prog:=⟨114,[ye,vi 24],.tup [.agg [vi 14,vs ⟨#[]⟩,vi 0],vi 25],zAa⟩
theorem zAb:ze Tryz.prog 113 [ye,vi 23] (.tup [vi 24,vb true]):=zg (x:=xtK []) (l:=zr) (fl:=zm) (wk:=zn) (lim:=900) (n:=60) (by decide +kernel)
def zx7:Kn Tryz.prog:=⟨113,[ye,vi 23],.tup [vi 24,vb true],zAb⟩
theorem zAc:ze Tryz.prog 114 [ye,vi 18] (.tup [.agg [vi 4,vs ⟨#[112,97,103,101]⟩,vi 0],vi 23]):=zg (x:=xtK []) (l:=zr) (fl:=zm) (wk:=zn) (lim:=900) (n:=60) (by decide +kernel)
def zx8:Kn Tryz.prog:=⟨114,[ye,vi 18],.tup [.agg [vi 4,vs ⟨#[112,97,103,101]⟩,vi 0],vi 23],zAc⟩
theorem zAd:ze Tryz.prog 113 [ye,vi 17] (.tup [vi 18,vb true]):=zg (x:=xtK []) (l:=zr) (fl:=zm) (wk:=zn) (lim:=900) (n:=60) (by decide +kernel)
def zx9:Kn Tryz.prog:=⟨113,[ye,vi 17],.tup [vi 18,vb true],zAd⟩
theorem zAe:ze Tryz.prog 114 [ye,vi 16] (.tup [.agg [vi 13,vs ⟨#[125]⟩,vi 0],vi 17]):=zg (x:=xtK []) (l:=zr) (fl:=zm) (wk:=zn) (lim:=900) (n:=60) (by decide +kernel)
def zya:Kn Tryz.prog:=⟨114,[ye,vi 16],.tup [.agg [vi 13,vs ⟨#[125]⟩,vi 0],vi 17],zAe⟩
theorem zAf:ze Tryz.prog 113 [ye,vi 16] (.tup [vi 16,vb false]):=zg (x:=xtK []) (l:=zr) (fl:=zm) (wk:=zn) (lim:=900) (n:=60) (by decide +kernel)
def zyb:Kn Tryz.prog:=⟨113,[ye,vi 16],.tup [vi 16,vb false],zAf⟩
theorem zAg:ze Tryz.prog 114 [ye,vi 13] (.tup [.agg [vi 10,vs ⟨#[112,120]⟩,vi 1000],vi 16]):=zg (x:=xtK []) (l:=zr) (fl:=zm) (wk:=zn) (lim:=900) (n:=60) (by decide +kernel)
def zyc:Kn Tryz.prog:=⟨114,[ye,vi 13],.tup [.agg [vi 10,vs ⟨#[112,120]⟩,vi 1000],vi 16],zAg⟩
theorem zAh:ze Tryz.prog 113 [ye,vi 13] (.tup [vi 13,vb false]):=zg (x:=xtK []) (l:=zr) (fl:=zm) (wk:=zn) (lim:=900) (n:=60) (by decide +kernel)
def zyd:Kn Tryz.prog:=⟨113,[ye,vi 13],.tup [vi 13,vb false],zAh⟩
end Go.Proofs.YtlaopdfpncckeaaGreatDoor
