/- Part of the proof of ContextPage. No condition. -/
import Derived.Test.YtlaopdfpncckeaaGreatDoorAw2
namespace Go.Proofs.YtlaopdfpncckeaaGreatDoor
open Go.Sx
set_option maxRecDepth 100000
def ztM:V:=.slc 1 [[vi (-1)],[vi 12],[vi (-1)],[vi (-1)],[vi (-1)],[vi (-1)],[vi (-1)],[vi 11],[vi (-1)],[vi (-1)],[vi (-1)],[vi (-1)],[vi (-1)]]
def zzR:V:=.tup [.slc 3 [[vs ⟨#[99,111,110,116,101,110,116]⟩,.slc 3 [[vi 6,vs ⟨#[120]⟩,vi 0]],vb false]],zI]
theorem zCp:ze Tryz.prog 92 [lw9,ztM,vi 8,vi 11,vb false] (zzR):=zh (x:=xtK [ztE]) (l:=zu) (fl:=zm) (wk:=zn) (lim:=900) (n:=60) (by decide +kernel)
def znZ:Kn Tryz.prog:=⟨92,[lw9,ztM,vi 8,vi 11,vb false],zzR,zCp⟩
theorem zCq:ze Tryz.prog 51 [.slc 3 [[vi 2,vs ⟨#[114,101,100]⟩,vi 0]]] (.tup [.slc 1 [[vi (-1)]],vi 0]):=zh (x:=xtK []) (l:=zu) (fl:=zm) (wk:=zn) (lim:=900) (n:=60) (by decide +kernel)
def zjJ:Kn Tryz.prog:=⟨51,[.slc 3 [[vi 2,vs ⟨#[114,101,100]⟩,vi 0]]],.tup [.slc 1 [[vi (-1)]],vi 0],zCq⟩
theorem zCr:ze Tryz.prog 93 [.slc 3 [[vi 2,vs ⟨#[114,101,100]⟩,vi 0]]] (vb true):=zh (x:=xtK [zdE,zgj,zjJ]) (l:=zu) (fl:=zm) (wk:=zn) (lim:=900) (n:=60) (by decide +kernel)
def zn0:Kn Tryz.prog:=⟨93,[.slc 3 [[vi 2,vs ⟨#[114,101,100]⟩,vi 0]]],vb true,zCr⟩
def zzS:V:=.tup [.agg [vs ⟨#[99,111,108,111,114]⟩,.slc 3 [[vi 2,vs ⟨#[114,101,100]⟩,vi 0]],vb false],vb true]
theorem zCs:ze Tryz.prog 116 [lw9,vi 2,vi 5] (zzS):=zh (x:=xtK [zjH,zjI,zn0]) (l:=zu) (fl:=zm) (wk:=zn) (lim:=900) (n:=60) (by decide +kernel)
def zxF:Kn Tryz.prog:=⟨116,[lw9,vi 2,vi 5],zzS,zCs⟩
def zzT:V:=.tup [.slc 3 [[vs ⟨#[99,111,108,111,114]⟩,.slc 3 [[vi 2,vs ⟨#[114,101,100]⟩,vi 0]],vb false]],.slc 2 [[vs ⟨#[116,111,112,45,108,101,102,116]⟩,.slc 3 [[vs ⟨#[99,111,110,116,101,110,116]⟩,.slc 3 [[vi 6,vs ⟨#[120]⟩,vi 0]],vb false]]]]]
theorem zCt:ze Tryz.prog 92 [lw9,ztM,vi 2,vi 12,vb true] (zzT):=zh (x:=xtK [ztE,znZ,zxF]) (l:=zu) (fl:=zm) (wk:=zn) (lim:=900) (n:=60) (by decide +kernel)
def ztF:Kn Tryz.prog:=⟨92,[lw9,ztM,vi 2,vi 12,vb true],zzT,zCt⟩
def zzU:V:=.tup [.slc 1 [[vi (-1)],[vi 12],[vi (-1)],[vi (-1)],[vi (-1)],[vi (-1)],[vi (-1)],[vi 11],[vi (-1)],[vi (-1)],[vi (-1)],[vi (-1)],[vi (-1)]],vi 0]
theorem zCu:ze Tryz.prog 51 [lw9] (zzU):=zh (x:=xtK []) (l:=zu) (fl:=zm) (wk:=zn) (lim:=900) (n:=60) (by decide +kernel)
def zn1:Kn Tryz.prog:=⟨51,[lw9],zzU,zCu⟩
def yo:V:=.slc 1 [[vi 64],[vi 112],[vi 97],[vi 103],[vi 101],[vi 123],[vi 99],[vi 111],[vi 108],[vi 111],[vi 114],[vi 58],[vi 114],[vi 101],[vi 100],[vi 59],[vi 64],[vi 116],[vi 111],[vi 112],[vi 45],[vi 108],[vi 101],[vi 102],[vi 116],[vi 123],[vi 99],[vi 111],[vi 110],[vi 116],[vi 101],[vi 110],[vi 116],[vi 58],[vi 39],[vi 120],[vi 39],[vi 125],[vi 125]]
theorem zCv:ze Tryz.prog 114 [yo,vi 38] (.tup [.agg [vi 13,vs ⟨#[125]⟩,vi 0],vi 39]):=zh (x:=xtK []) (l:=zu) (fl:=zm) (wk:=zn) (lim:=900) (n:=60) (by decide +kernel)
def zzn:Kn Tryz.prog:=⟨114,[yo,vi 38],.tup [.agg [vi 13,vs ⟨#[125]⟩,vi 0],vi 39],zCv⟩
theorem zCw:ze Tryz.prog 113 [yo,vi 38] (.tup [vi 38,vb false]):=zh (x:=xtK []) (l:=zu) (fl:=zm) (wk:=zn) (lim:=900) (n:=60) (by decide +kernel)
def zzo:Kn Tryz.prog:=⟨113,[yo,vi 38],.tup [vi 38,vb false],zCw⟩
theorem zCx:ze Tryz.prog 114 [yo,vi 37] (.tup [.agg [vi 13,vs ⟨#[125]⟩,vi 0],vi 38]):=zh (x:=xtK []) (l:=zu) (fl:=zm) (wk:=zn) (lim:=900) (n:=60) (by decide +kernel)
def zzp:Kn Tryz.prog:=⟨114,[yo,vi 37],.tup [.agg [vi 13,vs ⟨#[125]⟩,vi 0],vi 38],zCx⟩
theorem zCy:ze Tryz.prog 113 [yo,vi 37] (.tup [vi 37,vb false]):=zh (x:=xtK []) (l:=zu) (fl:=zm) (wk:=zn) (lim:=900) (n:=60) (by decide +kernel)
def zzq:Kn Tryz.prog:=⟨113,[yo,vi 37],.tup [vi 37,vb false],zCy⟩
theorem zCz:ze Tryz.prog 114 [yo,vi 34] (.tup [.agg [vi 6,vs ⟨#[120]⟩,vi 0],vi 37]):=zh (x:=xtK []) (l:=zu) (fl:=zm) (wk:=zn) (lim:=900) (n:=60) (by decide +kernel)
def zzr:Kn Tryz.prog:=⟨114,[yo,vi 34],.tup [.agg [vi 6,vs ⟨#[120]⟩,vi 0],vi 37],zCz⟩
theorem zCA:ze Tryz.prog 113 [yo,vi 34] (.tup [vi 34,vb false]):=zh (x:=xtK []) (l:=zu) (fl:=zm) (wk:=zn) (lim:=900) (n:=60) (by decide +kernel)
def zzs:Kn Tryz.prog:=⟨113,[yo,vi 34],.tup [vi 34,vb false],zCA⟩
theorem zCB:ze Tryz.prog 114 [yo,vi 33] (.tup [.agg [vi 14,vs ⟨#[]⟩,vi 0],vi 34]):=zh (x:=xtK []) (l:=zu) (fl:=zm) (wk:=zn) (lim:=900) (n:=60) (by decide +kernel)
def zzt:Kn Tryz.prog:=⟨114,[yo,vi 33],.tup [.agg [vi 14,vs ⟨#[]⟩,vi 0],vi 34],zCB⟩
theorem zCC:ze Tryz.prog 113 [yo,vi 33] (.tup [vi 33,vb false]):=zh (x:=xtK []) (l:=zu) (fl:=zm) (wk:=zn) (lim:=900) (n:=60) (by decide +kernel)
def zzu:Kn Tryz.prog:=⟨113,[yo,vi 33],.tup [vi 33,vb false],zCC⟩
def zzV:V:=.tup [.agg [vi 2,vs ⟨#[99,111,110,116,101,110,116]⟩,vi 0],vi 33]
theorem zCD:ze Tryz.prog 114 [yo,vi 26] (zzV):=zh (x:=xtK []) (l:=zu) (fl:=zm) (wk:=zn) (lim:=900) (n:=60) (by decide +kernel)
def zzv:Kn Tryz.prog:=⟨114,[yo,vi 26],zzV,zCD⟩
theorem zCE:ze Tryz.prog 113 [yo,vi 26] (.tup [vi 26,vb false]):=zh (x:=xtK []) (l:=zu) (fl:=zm) (wk:=zn) (lim:=900) (n:=60) (by decide +kernel)
def zzw:Kn Tryz.prog:=⟨113,[yo,vi 26],.tup [vi 26,vb false],zCE⟩
theorem zCF:ze Tryz.prog 114 [yo,vi 25] (.tup [.agg [vi 12,vs ⟨#[123]⟩,vi 0],vi 26]):=zh (x:=xtK []) (l:=zu) (fl:=zm) (wk:=zn) (lim:=900) (n:=60) (by decide +kernel)
def zzx:Kn Tryz.prog:=⟨114,[yo,vi 25],.tup [.agg [vi 12,vs ⟨#[123]⟩,vi 0],vi 26],zCF⟩
theorem zCG:ze Tryz.prog 113 [yo,vi 25] (.tup [vi 25,vb false]):=zh (x:=xtK []) (l:=zu) (fl:=zm) (wk:=zn) (lim:=900) (n:=60) (by decide +kernel)
def zzy:Kn Tryz.prog:=⟨113,[yo,vi 25],.tup [vi 25,vb false],zCG⟩
def zzW:V:=.tup [.agg [vi 4,vs ⟨#[116,111,112,45,108,101,102,116]⟩,vi 0],vi 25]
theorem zCH:ze Tryz.prog 114 [yo,vi 16] (zzW):=zh (x:=xtK []) (l:=zu) (fl:=zm) (wk:=zn) (lim:=900) (n:=60) (by decide +kernel)
def zzz:Kn Tryz.prog:=⟨114,[yo,vi 16],zzW,zCH⟩
theorem zCI:ze Tryz.prog 113 [yo,vi 16] (.tup [vi 16,vb false]):=zh (x:=xtK []) (l:=zu) (fl:=zm) (wk:=zn) (lim:=900) (n:=60) (by decide +kernel)
def zzA:Kn Tryz.prog:=⟨113,[yo,vi 16],.tup [vi 16,vb false],zCI⟩
theorem zCJ:ze Tryz.prog 114 [yo,vi 15] (.tup [.agg [vi 15,vs ⟨#[]⟩,vi 0],vi 16]):=zh (x:=xtK []) (l:=zu) (fl:=zm) (wk:=zn) (lim:=900) (n:=60) (by decide +kernel)
def zzB:Kn Tryz.prog:=⟨114,[yo,vi 15],.tup [.agg [vi 15,vs ⟨#[]⟩,vi 0],vi 16],zCJ⟩
theorem zCK:ze Tryz.prog 113 [yo,vi 15] (.tup [vi 15,vb false]):=zh (x:=xtK []) (l:=zu) (fl:=zm) (wk:=zn) (lim:=900) (n:=60) (by decide +kernel)
def zzC:Kn Tryz.prog:=⟨113,[yo,vi 15],.tup [vi 15,vb false],zCK⟩
theorem zCL:ze Tryz.prog 114 [yo,vi 12] (.tup [.agg [vi 2,vs ⟨#[114,101,100]⟩,vi 0],vi 15]):=zh (x:=xtK []) (l:=zu) (fl:=zm) (wk:=zn) (lim:=900) (n:=60) (by decide +kernel)
def zzD:Kn Tryz.prog:=⟨114,[yo,vi 12],.tup [.agg [vi 2,vs ⟨#[114,101,100]⟩,vi 0],vi 15],zCL⟩
theorem zCM:ze Tryz.prog 113 [yo,vi 12] (.tup [vi 12,vb false]):=zh (x:=xtK []) (l:=zu) (fl:=zm) (wk:=zn) (lim:=900) (n:=60) (by decide +kernel)
def zzE:Kn Tryz.prog:=⟨113,[yo,vi 12],.tup [vi 12,vb false],zCM⟩
theorem zCN:ze Tryz.prog 114 [yo,vi 11] (.tup [.agg [vi 14,vs ⟨#[]⟩,vi 0],vi 12]):=zh (x:=xtK []) (l:=zu) (fl:=zm) (wk:=zn) (lim:=900) (n:=60) (by decide +kernel)
def zzF:Kn Tryz.prog:=⟨114,[yo,vi 11],.tup [.agg [vi 14,vs ⟨#[]⟩,vi 0],vi 12],zCN⟩
end Go.Proofs.YtlaopdfpncckeaaGreatDoor
