/- Part of the proof of ContextPage. No condition. -/
import Derived.Test.YtlaopdfpncckeaaGreatDoorAw6
namespace Go.Proofs.YtlaopdfpncckeaaGreatDoor
open Go.Sx
set_option maxRecDepth 100000
theorem zBd:ze Tryz.prog 114 [ym,vi 12] (.tup [.agg [vi 14,vs ⟨#[]⟩,vi 0],vi 13]):=zh (x:=xtK []) (l:=zu) (fl:=zm) (wk:=zn) (lim:=900) (n:=60) (by decide +kernel)
def zza:Kn Tryz.prog:=⟨114,[ym,vi 12],.tup [.agg [vi 14,vs ⟨#[]⟩,vi 0],vi 13],zBd⟩
theorem zBe:ze Tryz.prog 113 [ym,vi 12] (.tup [vi 12,vb false]):=zh (x:=xtK []) (l:=zu) (fl:=zm) (wk:=zn) (lim:=900) (n:=60) (by decide +kernel)
def zzb:Kn Tryz.prog:=⟨113,[ym,vi 12],.tup [vi 12,vb false],zBe⟩
def zAc:V:=.tup [.agg [vi 2,vs ⟨#[109,97,114,103,105,110]⟩,vi 0],vi 12]
theorem zBf:ze Tryz.prog 114 [ym,vi 6] (zAc):=zh (x:=xtK []) (l:=zu) (fl:=zm) (wk:=zn) (lim:=900) (n:=60) (by decide +kernel)
def zzc:Kn Tryz.prog:=⟨114,[ym,vi 6],zAc,zBf⟩
theorem zBg:ze Tryz.prog 113 [ym,vi 6] (.tup [vi 6,vb false]):=zh (x:=xtK []) (l:=zu) (fl:=zm) (wk:=zn) (lim:=900) (n:=60) (by decide +kernel)
def zzd:Kn Tryz.prog:=⟨113,[ym,vi 6],.tup [vi 6,vb false],zBg⟩
theorem zBh:ze Tryz.prog 114 [ym,vi 5] (.tup [.agg [vi 12,vs ⟨#[123]⟩,vi 0],vi 6]):=zh (x:=xtK []) (l:=zu) (fl:=zm) (wk:=zn) (lim:=900) (n:=60) (by decide +kernel)
def zze:Kn Tryz.prog:=⟨114,[ym,vi 5],.tup [.agg [vi 12,vs ⟨#[123]⟩,vi 0],vi 6],zBh⟩
theorem zBi:ze Tryz.prog 113 [ym,vi 5] (.tup [vi 5,vb false]):=zh (x:=xtK []) (l:=zu) (fl:=zm) (wk:=zn) (lim:=900) (n:=60) (by decide +kernel)
def zzf:Kn Tryz.prog:=⟨113,[ym,vi 5],.tup [vi 5,vb false],zBi⟩
theorem zBj:ze Tryz.prog 114 [ym,vi 0] (.tup [.agg [vi 4,vs ⟨#[112,97,103,101]⟩,vi 0],vi 5]):=zh (x:=xtK []) (l:=zu) (fl:=zm) (wk:=zn) (lim:=900) (n:=60) (by decide +kernel)
def zzg:Kn Tryz.prog:=⟨114,[ym,vi 0],.tup [.agg [vi 4,vs ⟨#[112,97,103,101]⟩,vi 0],vi 5],zBj⟩
theorem zBk:ze Tryz.prog 113 [ym,vi 0] (.tup [vi 0,vb false]):=zh (x:=xtK []) (l:=zu) (fl:=zm) (wk:=zn) (lim:=900) (n:=60) (by decide +kernel)
def zzh:Kn Tryz.prog:=⟨113,[ym,vi 0],.tup [vi 0,vb false],zBk⟩
def zjS:V:=.slc 1 [[.c (.int .u8 64)],[.c (.int .u8 112)],[.c (.int .u8 97)],[.c (.int .u8 103)],[.c (.int .u8 101)],[.c (.int .u8 123)],[.c (.int .u8 109)],[.c (.int .u8 97)],[.c (.int .u8 114)],[.c (.int .u8 103)],[.c (.int .u8 105)],[.c (.int .u8 110)],[.c (.int .u8 58)],[.c (.int .u8 49)],[.c (.int .u8 112)],[.c (.int .u8 120)],[.c (.int .u8 125)],[.c (.int .u8 32)],[.c (.int .u8 64)],[.c (.int .u8 112)],[.c (.int .u8 97)],[.c (.int .u8 103)],[.c (.int .u8 101)],[.c (.int .u8 32)],[.c (.int .u8 58)],[.c (.int .u8 108)],[.c (.int .u8 101)],[.c (.int .u8 102)],[.c (.int .u8 116)],[.c (.int .u8 123)],[.c (.int .u8 109)],[.c (.int .u8 97)],[.c (.int .u8 114)],[.c (.int .u8 103)],[.c (.int .u8 105)],[.c (.int .u8 110)],[.c (.int .u8 45)],[.c (.int .u8 116)],[.c (.int .u8 111)],[.c (.int .u8 112)],[.c (.int .u8 58)],[.c (.int .u8 50)],[.c (.int .u8 112)],[.c (.int .u8 120)],[.c (.int .u8 125)]]
theorem zBl:ze Tryz.prog 112 [zjS] (ym):=zh (x:=xtK []) (l:=zu) (fl:=zm) (wk:=zn) (lim:=900) (n:=60) (by decide +kernel)
def zzi:Kn Tryz.prog:=⟨112,[zjS],ym,zBl⟩
def zAd:V:=.tup [.slc 3 [[vi 4,vs ⟨#[112,97,103,101]⟩,vi 0],[vi 12,vs ⟨#[123]⟩,vi 0],[vi 2,vs ⟨#[109,97,114,103,105,110]⟩,vi 0],[vi 14,vs ⟨#[]⟩,vi 0],[vi 10,vs ⟨#[112,120]⟩,vi 1000],[vi 13,vs ⟨#[125]⟩,vi 0],[vi 1,vs ⟨#[]⟩,vi 0],[vi 4,vs ⟨#[112,97,103,101]⟩,vi 0],[vi 1,vs ⟨#[]⟩,vi 0],[vi 14,vs ⟨#[]⟩,vi 0],[vi 2,vs ⟨#[108,101,102,116]⟩,vi 0],[vi 12,vs ⟨#[123]⟩,vi 0],[vi 2,vs ⟨#[109,97,114,103,105,110,45,116,111,112]⟩,vi 0],[vi 14,vs ⟨#[]⟩,vi 0],[vi 10,vs ⟨#[112,120]⟩,vi 2000],[vi 13,vs ⟨#[125]⟩,vi 0]],vi 0]
theorem zBm:ze Tryz.prog 89 [zjS] (zAd):=zh (x:=xtK [zzn,zzo,zzp,zzq,zzr,zzs,zzt,zzu,zzv,zzw,zzx,zzy,zzz,zzA,zzB,zzC,zzD,zzE,zzF,zzG,zzH,zzI,zzJ,zzK,zzL,zzM,zzN,zyQ,zyR,zyS,zyT,zyU,zyV,zyW,zyX,zyY,zyZ,zy0,zy1,zy2,zy3,zy4,zy5,zy6,zy7,zy8,zy9,zza,zzb,zzc,zzd,zze,zzf,zzg,zzh,zzi]) (l:=zu) (fl:=zm) (wk:=zn) (lim:=900) (n:=60) (by decide +kernel)
def zzj:Kn Tryz.prog:=⟨89,[zjS],zAd,zBm⟩
def zAe:V:=.tup [.slc 4 [[vi 2,.slc 3 [],.slc 3 [[vs ⟨#[109,97,114,103,105,110]⟩,.slc 3 [[vi 10,vs ⟨#[112,120]⟩,vi 1000]],vb false]],zI],[vi 2,.slc 3 [[vi 14,vs ⟨#[]⟩,vi 0],[vi 2,vs ⟨#[108,101,102,116]⟩,vi 0]],.slc 3 [[vs ⟨#[109,97,114,103,105,110,45,116,111,112]⟩,.slc 3 [[vi 10,vs ⟨#[112,120]⟩,vi 2000]],vb false]],zI]],vi 0]
theorem zBn:ze Tryz.prog 62 [zjS] (zAe):=zh (x:=xtK [zdE,zjH,zgj,zjI,znZ,zjJ,zn0,ztF,zn1,zzO,zis,znW,znX,znY,zvm,zvn,zvo,zyO,zyP,zzj]) (l:=zu) (fl:=zm) (wk:=zn) (lim:=900) (n:=60) (by decide +kernel)
def zzk:Kn Tryz.prog:=⟨62,[zjS],zAe,zBn⟩
def zAf:V:=vs ⟨#[64,112,97,103,101,123,109,97,114,103,105,110,58,49,112,120,125,32,64,112,97,103,101,32,58,108,101,102,116,123,109,97,114,103,105,110,45,116,111,112,58,50,112,120,125]⟩
def zAg:V:=.slc 4 [[vi 2,.slc 3 [],.slc 3 [[vs ⟨#[109,97,114,103,105,110]⟩,.slc 3 [[vi 10,vs ⟨#[112,120]⟩,vi 1000]],vb false]],zI],[vi 2,.slc 3 [[vi 14,vs ⟨#[]⟩,vi 0],[vi 2,vs ⟨#[108,101,102,116]⟩,vi 0]],.slc 3 [[vs ⟨#[109,97,114,103,105,110,45,116,111,112]⟩,.slc 3 [[vi 10,vs ⟨#[112,120]⟩,vi 2000]],vb false]],zI]]
theorem zBo:ze Tryz.prog 25 [zAf] (zAg):=zh (x:=xtK [zzP,zzk]) (l:=zu) (fl:=zm) (wk:=zn) (lim:=900) (n:=60) (by decide +kernel)
def zzl:Kn Tryz.prog:=⟨25,[zAf],zAg,zBo⟩
theorem zmL:ze Tryz.prog 8 [] (vb true):=zh (x:=xtK [zzm,zBD,zBE,zyM,zzl]) (l:=zu) (fl:=zm) (wk:=zn) (lim:=900) (n:=60) (by decide +kernel)
end Go.Proofs.YtlaopdfpncckeaaGreatDoor
