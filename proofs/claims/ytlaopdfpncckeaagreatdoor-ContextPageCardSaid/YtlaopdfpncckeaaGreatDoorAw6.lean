/- Part of the proof of ContextPage. No condition. -/
import Derived.Test.YtlaopdfpncckeaaGreatDoorAw5
namespace Go.Proofs.YtlaopdfpncckeaaGreatDoor
open Go.Sx
set_option maxRecDepth 100000
theorem zAO:ze Tryz.prog 51 [.slc 3 [[vi 10,vs ⟨#[112,120]⟩,vi 1000]]] (.tup [.slc 1 [[vi (-1)]],vi 0]):=zh (x:=xtK []) (l:=zu) (fl:=zm) (wk:=zn) (lim:=900) (n:=60) (by decide +kernel)
def zvn:Kn Tryz.prog:=⟨51,[.slc 3 [[vi 10,vs ⟨#[112,120]⟩,vi 1000]]],.tup [.slc 1 [[vi (-1)]],vi 0],zAO⟩
theorem zAP:ze Tryz.prog 93 [.slc 3 [[vi 10,vs ⟨#[112,120]⟩,vi 1000]]] (vb true):=zh (x:=xtK [zdE,zgj,zjJ,zn1,zis,znX,zvn]) (l:=zu) (fl:=zm) (wk:=zn) (lim:=900) (n:=60) (by decide +kernel)
def zvo:Kn Tryz.prog:=⟨93,[.slc 3 [[vi 10,vs ⟨#[112,120]⟩,vi 1000]]],vb true,zAP⟩
def zz8:V:=.tup [.agg [vs ⟨#[109,97,114,103,105,110]⟩,.slc 3 [[vi 10,vs ⟨#[112,120]⟩,vi 1000]],vb false],vb true]
theorem zAQ:ze Tryz.prog 116 [zal,vi 2,vi 5] (zz8):=zh (x:=xtK [zjH,zjI,zn0,znW,znY,zvo]) (l:=zu) (fl:=zm) (wk:=zn) (lim:=900) (n:=60) (by decide +kernel)
def zyN:Kn Tryz.prog:=⟨116,[zal,vi 2,vi 5],zz8,zAQ⟩
def zz9:V:=.tup [.slc 3 [[vs ⟨#[109,97,114,103,105,110]⟩,.slc 3 [[vi 10,vs ⟨#[112,120]⟩,vi 1000]],vb false]],zI]
theorem zAR:ze Tryz.prog 92 [zal,ztP,vi 2,vi 5,vb true] (zz9):=zh (x:=xtK [ztE,znZ,zxF,ztF,zvl,zvm,zyN]) (l:=zu) (fl:=zm) (wk:=zn) (lim:=900) (n:=60) (by decide +kernel)
def zyO:Kn Tryz.prog:=⟨92,[zal,ztP,vi 2,vi 5,vb true],zz9,zAR⟩
def zAa:V:=.tup [.slc 1 [[vi (-1)],[vi 5],[vi (-1)],[vi (-1)],[vi (-1)],[vi (-1)],[vi (-1)],[vi (-1)],[vi (-1)],[vi (-1)],[vi (-1)],[vi 15],[vi (-1)],[vi (-1)],[vi (-1)],[vi (-1)]],vi 0]
theorem zAS:ze Tryz.prog 51 [zal] (zAa):=zh (x:=xtK []) (l:=zu) (fl:=zm) (wk:=zn) (lim:=900) (n:=60) (by decide +kernel)
def zyP:Kn Tryz.prog:=⟨51,[zal],zAa,zAS⟩
def ym:V:=.slc 1 [[vi 64],[vi 112],[vi 97],[vi 103],[vi 101],[vi 123],[vi 109],[vi 97],[vi 114],[vi 103],[vi 105],[vi 110],[vi 58],[vi 49],[vi 112],[vi 120],[vi 125],[vi 32],[vi 64],[vi 112],[vi 97],[vi 103],[vi 101],[vi 32],[vi 58],[vi 108],[vi 101],[vi 102],[vi 116],[vi 123],[vi 109],[vi 97],[vi 114],[vi 103],[vi 105],[vi 110],[vi 45],[vi 116],[vi 111],[vi 112],[vi 58],[vi 50],[vi 112],[vi 120],[vi 125]]
theorem zAT:ze Tryz.prog 114 [ym,vi 44] (.tup [.agg [vi 13,vs ⟨#[125]⟩,vi 0],vi 45]):=zh (x:=xtK []) (l:=zu) (fl:=zm) (wk:=zn) (lim:=900) (n:=60) (by decide +kernel)
def zyQ:Kn Tryz.prog:=⟨114,[ym,vi 44],.tup [.agg [vi 13,vs ⟨#[125]⟩,vi 0],vi 45],zAT⟩
theorem zAU:ze Tryz.prog 113 [ym,vi 44] (.tup [vi 44,vb false]):=zh (x:=xtK []) (l:=zu) (fl:=zm) (wk:=zn) (lim:=900) (n:=60) (by decide +kernel)
def zyR:Kn Tryz.prog:=⟨113,[ym,vi 44],.tup [vi 44,vb false],zAU⟩
theorem zAV:ze Tryz.prog 114 [ym,vi 41] (.tup [.agg [vi 10,vs ⟨#[112,120]⟩,vi 2000],vi 44]):=zh (x:=xtK []) (l:=zu) (fl:=zm) (wk:=zn) (lim:=900) (n:=60) (by decide +kernel)
def zyS:Kn Tryz.prog:=⟨114,[ym,vi 41],.tup [.agg [vi 10,vs ⟨#[112,120]⟩,vi 2000],vi 44],zAV⟩
theorem zAW:ze Tryz.prog 113 [ym,vi 41] (.tup [vi 41,vb false]):=zh (x:=xtK []) (l:=zu) (fl:=zm) (wk:=zn) (lim:=900) (n:=60) (by decide +kernel)
def zyT:Kn Tryz.prog:=⟨113,[ym,vi 41],.tup [vi 41,vb false],zAW⟩
theorem zAX:ze Tryz.prog 114 [ym,vi 40] (.tup [.agg [vi 14,vs ⟨#[]⟩,vi 0],vi 41]):=zh (x:=xtK []) (l:=zu) (fl:=zm) (wk:=zn) (lim:=900) (n:=60) (by decide +kernel)
def zyU:Kn Tryz.prog:=⟨114,[ym,vi 40],.tup [.agg [vi 14,vs ⟨#[]⟩,vi 0],vi 41],zAX⟩
theorem zAY:ze Tryz.prog 113 [ym,vi 40] (.tup [vi 40,vb false]):=zh (x:=xtK []) (l:=zu) (fl:=zm) (wk:=zn) (lim:=900) (n:=60) (by decide +kernel)
def zyV:Kn Tryz.prog:=⟨113,[ym,vi 40],.tup [vi 40,vb false],zAY⟩
def zAb:V:=.tup [.agg [vi 2,vs ⟨#[109,97,114,103,105,110,45,116,111,112]⟩,vi 0],vi 40]
theorem zAZ:ze Tryz.prog 114 [ym,vi 30] (zAb):=zh (x:=xtK []) (l:=zu) (fl:=zm) (wk:=zn) (lim:=900) (n:=60) (by decide +kernel)
def zyW:Kn Tryz.prog:=⟨114,[ym,vi 30],zAb,zAZ⟩
theorem zA0:ze Tryz.prog 113 [ym,vi 30] (.tup [vi 30,vb false]):=zh (x:=xtK []) (l:=zu) (fl:=zm) (wk:=zn) (lim:=900) (n:=60) (by decide +kernel)
def zyX:Kn Tryz.prog:=⟨113,[ym,vi 30],.tup [vi 30,vb false],zA0⟩
theorem zA1:ze Tryz.prog 114 [ym,vi 29] (.tup [.agg [vi 12,vs ⟨#[123]⟩,vi 0],vi 30]):=zh (x:=xtK []) (l:=zu) (fl:=zm) (wk:=zn) (lim:=900) (n:=60) (by decide +kernel)
def zyY:Kn Tryz.prog:=⟨114,[ym,vi 29],.tup [.agg [vi 12,vs ⟨#[123]⟩,vi 0],vi 30],zA1⟩
theorem zA2:ze Tryz.prog 113 [ym,vi 29] (.tup [vi 29,vb false]):=zh (x:=xtK []) (l:=zu) (fl:=zm) (wk:=zn) (lim:=900) (n:=60) (by decide +kernel)
def zyZ:Kn Tryz.prog:=⟨113,[ym,vi 29],.tup [vi 29,vb false],zA2⟩
theorem zA3:ze Tryz.prog 114 [ym,vi 25] (.tup [.agg [vi 2,vs ⟨#[108,101,102,116]⟩,vi 0],vi 29]):=zh (x:=xtK []) (l:=zu) (fl:=zm) (wk:=zn) (lim:=900) (n:=60) (by decide +kernel)
def zy0:Kn Tryz.prog:=⟨114,[ym,vi 25],.tup [.agg [vi 2,vs ⟨#[108,101,102,116]⟩,vi 0],vi 29],zA3⟩
theorem zA4:ze Tryz.prog 113 [ym,vi 25] (.tup [vi 25,vb false]):=zh (x:=xtK []) (l:=zu) (fl:=zm) (wk:=zn) (lim:=900) (n:=60) (by decide +kernel)
def zy1:Kn Tryz.prog:=⟨113,[ym,vi 25],.tup [vi 25,vb false],zA4⟩
theorem zA5:ze Tryz.prog 114 [ym,vi 24] (.tup [.agg [vi 14,vs ⟨#[]⟩,vi 0],vi 25]):=zh (x:=xtK []) (l:=zu) (fl:=zm) (wk:=zn) (lim:=900) (n:=60) (by decide +kernel)
def zy2:Kn Tryz.prog:=⟨114,[ym,vi 24],.tup [.agg [vi 14,vs ⟨#[]⟩,vi 0],vi 25],zA5⟩
theorem zA6:ze Tryz.prog 113 [ym,vi 23] (.tup [vi 24,vb true]):=zh (x:=xtK []) (l:=zu) (fl:=zm) (wk:=zn) (lim:=900) (n:=60) (by decide +kernel)
def zy3:Kn Tryz.prog:=⟨113,[ym,vi 23],.tup [vi 24,vb true],zA6⟩
theorem zA7:ze Tryz.prog 114 [ym,vi 18] (.tup [.agg [vi 4,vs ⟨#[112,97,103,101]⟩,vi 0],vi 23]):=zh (x:=xtK []) (l:=zu) (fl:=zm) (wk:=zn) (lim:=900) (n:=60) (by decide +kernel)
def zy4:Kn Tryz.prog:=⟨114,[ym,vi 18],.tup [.agg [vi 4,vs ⟨#[112,97,103,101]⟩,vi 0],vi 23],zA7⟩
theorem zA8:ze Tryz.prog 113 [ym,vi 17] (.tup [vi 18,vb true]):=zh (x:=xtK []) (l:=zu) (fl:=zm) (wk:=zn) (lim:=900) (n:=60) (by decide +kernel)
def zy5:Kn Tryz.prog:=⟨113,[ym,vi 17],.tup [vi 18,vb true],zA8⟩
theorem zA9:ze Tryz.prog 114 [ym,vi 16] (.tup [.agg [vi 13,vs ⟨#[125]⟩,vi 0],vi 17]):=zh (x:=xtK []) (l:=zu) (fl:=zm) (wk:=zn) (lim:=900) (n:=60) (by decide +kernel)
def zy6:Kn Tryz.prog:=⟨114,[ym,vi 16],.tup [.agg [vi 13,vs ⟨#[125]⟩,vi 0],vi 17],zA9⟩
theorem zBa:ze Tryz.prog 113 [ym,vi 16] (.tup [vi 16,vb false]):=zh (x:=xtK []) (l:=zu) (fl:=zm) (wk:=zn) (lim:=900) (n:=60) (by decide +kernel)
def zy7:Kn Tryz.prog:=⟨113,[ym,vi 16],.tup [vi 16,vb false],zBa⟩
theorem zBb:ze Tryz.prog 114 [ym,vi 13] (.tup [.agg [vi 10,vs ⟨#[112,120]⟩,vi 1000],vi 16]):=zh (x:=xtK []) (l:=zu) (fl:=zm) (wk:=zn) (lim:=900) (n:=60) (by decide +kernel)
def zy8:Kn Tryz.prog:=⟨114,[ym,vi 13],.tup [.agg [vi 10,vs ⟨#[112,120]⟩,vi 1000],vi 16],zBb⟩
theorem zBc:ze Tryz.prog 113 [ym,vi 13] (.tup [vi 13,vb false]):=zh (x:=xtK []) (l:=zu) (fl:=zm) (wk:=zn) (lim:=900) (n:=60) (by decide +kernel)
def zy9:Kn Tryz.prog:=⟨113,[ym,vi 13],.tup [vi 13,vb false],zBc⟩
end Go.Proofs.YtlaopdfpncckeaaGreatDoor
