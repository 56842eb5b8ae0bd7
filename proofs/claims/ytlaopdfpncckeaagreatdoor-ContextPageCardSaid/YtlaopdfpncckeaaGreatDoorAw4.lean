/- Part of the proof of ContextPage. No condition. -/
import Derived.Test.YtlaopdfpncckeaaGreatDoorAw3
namespace Go.Proofs.YtlaopdfpncckeaaGreatDoor
open Go.Sx
set_option maxRecDepth 100000
theorem zCO:ze Tryz.prog 113 [yo,vi 11] (.tup [vi 11,vb false]):=zh (x:=xtK []) (l:=zu) (fl:=zm) (wk:=zn) (lim:=900) (n:=60) (by decide +kernel)
def zzG:Kn Tryz.prog:=⟨113,[yo,vi 11],.tup [vi 11,vb false],zCO⟩
def zzX:V:=.tup [.agg [vi 2,vs ⟨#[99,111,108,111,114]⟩,vi 0],vi 11]
theorem zCP:ze Tryz.prog 114 [yo,vi 6] (zzX):=zh (x:=xtK []) (l:=zu) (fl:=zm) (wk:=zn) (lim:=900) (n:=60) (by decide +kernel)
def zzH:Kn Tryz.prog:=⟨114,[yo,vi 6],zzX,zCP⟩
theorem zCQ:ze Tryz.prog 113 [yo,vi 6] (.tup [vi 6,vb false]):=zh (x:=xtK []) (l:=zu) (fl:=zm) (wk:=zn) (lim:=900) (n:=60) (by decide +kernel)
def zzI:Kn Tryz.prog:=⟨113,[yo,vi 6],.tup [vi 6,vb false],zCQ⟩
theorem zCR:ze Tryz.prog 114 [yo,vi 5] (.tup [.agg [vi 12,vs ⟨#[123]⟩,vi 0],vi 6]):=zh (x:=xtK []) (l:=zu) (fl:=zm) (wk:=zn) (lim:=900) (n:=60) (by decide +kernel)
def zzJ:Kn Tryz.prog:=⟨114,[yo,vi 5],.tup [.agg [vi 12,vs ⟨#[123]⟩,vi 0],vi 6],zCR⟩
theorem zCS:ze Tryz.prog 113 [yo,vi 5] (.tup [vi 5,vb false]):=zh (x:=xtK []) (l:=zu) (fl:=zm) (wk:=zn) (lim:=900) (n:=60) (by decide +kernel)
def zzK:Kn Tryz.prog:=⟨113,[yo,vi 5],.tup [vi 5,vb false],zCS⟩
theorem zCT:ze Tryz.prog 114 [yo,vi 0] (.tup [.agg [vi 4,vs ⟨#[112,97,103,101]⟩,vi 0],vi 5]):=zh (x:=xtK []) (l:=zu) (fl:=zm) (wk:=zn) (lim:=900) (n:=60) (by decide +kernel)
def zzL:Kn Tryz.prog:=⟨114,[yo,vi 0],.tup [.agg [vi 4,vs ⟨#[112,97,103,101]⟩,vi 0],vi 5],zCT⟩
theorem zCU:ze Tryz.prog 113 [yo,vi 0] (.tup [vi 0,vb false]):=zh (x:=xtK []) (l:=zu) (fl:=zm) (wk:=zn) (lim:=900) (n:=60) (by decide +kernel)
def zzM:Kn Tryz.prog:=⟨113,[yo,vi 0],.tup [vi 0,vb false],zCU⟩
def zjQ:V:=.slc 1 [[.c (.int .u8 64)],[.c (.int .u8 112)],[.c (.int .u8 97)],[.c (.int .u8 103)],[.c (.int .u8 101)],[.c (.int .u8 123)],[.c (.int .u8 99)],[.c (.int .u8 111)],[.c (.int .u8 108)],[.c (.int .u8 111)],[.c (.int .u8 114)],[.c (.int .u8 58)],[.c (.int .u8 114)],[.c (.int .u8 101)],[.c (.int .u8 100)],[.c (.int .u8 59)],[.c (.int .u8 64)],[.c (.int .u8 116)],[.c (.int .u8 111)],[.c (.int .u8 112)],[.c (.int .u8 45)],[.c (.int .u8 108)],[.c (.int .u8 101)],[.c (.int .u8 102)],[.c (.int .u8 116)],[.c (.int .u8 123)],[.c (.int .u8 99)],[.c (.int .u8 111)],[.c (.int .u8 110)],[.c (.int .u8 116)],[.c (.int .u8 101)],[.c (.int .u8 110)],[.c (.int .u8 116)],[.c (.int .u8 58)],[.c (.int .u8 39)],[.c (.int .u8 120)],[.c (.int .u8 39)],[.c (.int .u8 125)],[.c (.int .u8 125)]]
theorem zCV:ze Tryz.prog 112 [zjQ] (yo):=zh (x:=xtK []) (l:=zu) (fl:=zm) (wk:=zn) (lim:=900) (n:=60) (by decide +kernel)
def zzN:Kn Tryz.prog:=⟨112,[zjQ],yo,zCV⟩
def zzY:V:=.tup [.slc 3 [[vi 4,vs ⟨#[112,97,103,101]⟩,vi 0],[vi 12,vs ⟨#[123]⟩,vi 0],[vi 2,vs ⟨#[99,111,108,111,114]⟩,vi 0],[vi 14,vs ⟨#[]⟩,vi 0],[vi 2,vs ⟨#[114,101,100]⟩,vi 0],[vi 15,vs ⟨#[]⟩,vi 0],[vi 4,vs ⟨#[116,111,112,45,108,101,102,116]⟩,vi 0],[vi 12,vs ⟨#[123]⟩,vi 0],[vi 2,vs ⟨#[99,111,110,116,101,110,116]⟩,vi 0],[vi 14,vs ⟨#[]⟩,vi 0],[vi 6,vs ⟨#[120]⟩,vi 0],[vi 13,vs ⟨#[125]⟩,vi 0],[vi 13,vs ⟨#[125]⟩,vi 0]],vi 0]
theorem zCW:ze Tryz.prog 89 [zjQ] (zzY):=zh (x:=xtK [zzn,zzo,zzp,zzq,zzr,zzs,zzt,zzu,zzv,zzw,zzx,zzy,zzz,zzA,zzB,zzC,zzD,zzE,zzF,zzG,zzH,zzI,zzJ,zzK,zzL,zzM,zzN]) (l:=zu) (fl:=zm) (wk:=zn) (lim:=900) (n:=60) (by decide +kernel)
def zzO:Kn Tryz.prog:=⟨89,[zjQ],zzY,zCW⟩
def zzZ:V:=.tup [.slc 4 [[vi 2,.slc 3 [],.slc 3 [[vs ⟨#[99,111,108,111,114]⟩,.slc 3 [[vi 2,vs ⟨#[114,101,100]⟩,vi 0]],vb false]],.slc 2 [[vs ⟨#[116,111,112,45,108,101,102,116]⟩,.slc 3 [[vs ⟨#[99,111,110,116,101,110,116]⟩,.slc 3 [[vi 6,vs ⟨#[120]⟩,vi 0]],vb false]]]]]],vi 0]
theorem zCX:ze Tryz.prog 62 [zjQ] (zzZ):=zh (x:=xtK [zdE,zjH,zgj,zjI,znZ,zjJ,zn0,ztF,zn1,zzO]) (l:=zu) (fl:=zm) (wk:=zn) (lim:=900) (n:=60) (by decide +kernel)
def zzP:Kn Tryz.prog:=⟨62,[zjQ],zzZ,zCX⟩
def zz0:V:=vs ⟨#[64,112,97,103,101,123,99,111,108,111,114,58,114,101,100,59,64,116,111,112,45,108,101,102,116,123,99,111,110,116,101,110,116,58,39,120,39,125,125]⟩
def zz1:V:=.slc 4 [[vi 2,.slc 3 [],.slc 3 [[vs ⟨#[99,111,108,111,114]⟩,.slc 3 [[vi 2,vs ⟨#[114,101,100]⟩,vi 0]],vb false]],.slc 2 [[vs ⟨#[116,111,112,45,108,101,102,116]⟩,.slc 3 [[vs ⟨#[99,111,110,116,101,110,116]⟩,.slc 3 [[vi 6,vs ⟨#[120]⟩,vi 0]],vb false]]]]]]
theorem zCY:ze Tryz.prog 25 [zz0] (zz1):=zh (x:=xtK [zzP]) (l:=zu) (fl:=zm) (wk:=zn) (lim:=900) (n:=60) (by decide +kernel)
def zBE:Kn Tryz.prog:=⟨25,[zz0],zz1,zCY⟩
def Zv:V:=.agg [vs ⟨#[109,97,114,103,105,110,45,116,111,112]⟩,.slc 3 [[vi 10,vs ⟨#[112,120]⟩,vi 2000]],vb false]
theorem zCZ:ze Tryz.prog 72 [vi 9,Zv] (vb false):=zh (x:=xtK []) (l:=zu) (fl:=zm) (wk:=zn) (lim:=900) (n:=60) (by decide +kernel)
def zah:Kn Tryz.prog:=⟨72,[vi 9,Zv],vb false,zCZ⟩
def zz2:V:=.agg [vi 2,.slc 3 [[vi 14,vs ⟨#[]⟩,vi 0],[vi 2,vs ⟨#[108,101,102,116]⟩,vi 0]],.slc 3 [[vs ⟨#[109,97,114,103,105,110,45,116,111,112]⟩,.slc 3 [[vi 10,vs ⟨#[112,120]⟩,vi 2000]],vb false]],zI]
theorem zC0:ze Tryz.prog 102 [zz2,.agg [vi 2,vb false,vb false,vb false,vs ⟨#[]⟩,vi 0]] (.tup [.agg [vi 0,vi 0,vi 1],vb true]):=zh (x:=xtK []) (l:=zu) (fl:=zm) (wk:=zn) (lim:=900) (n:=60) (by decide +kernel)
def zai:Kn Tryz.prog:=⟨102,[zz2,.agg [vi 2,vb false,vb false,vb false,vs ⟨#[]⟩,vi 0]],.tup [.agg [vi 0,vi 0,vi 1],vb true],zC0⟩
def Zw:V:=.agg [vs ⟨#[109,97,114,103,105,110]⟩,.slc 3 [[vi 10,vs ⟨#[112,120]⟩,vi 1000]],vb false]
theorem zC1:ze Tryz.prog 72 [vi 9,Zw] (vb false):=zh (x:=xtK []) (l:=zu) (fl:=zm) (wk:=zn) (lim:=900) (n:=60) (by decide +kernel)
def zaj:Kn Tryz.prog:=⟨72,[vi 9,Zw],vb false,zC1⟩
def zz3:V:=.agg [vi 2,.slc 3 [],.slc 3 [[vs ⟨#[109,97,114,103,105,110]⟩,.slc 3 [[vi 10,vs ⟨#[112,120]⟩,vi 1000]],vb false]],zI]
theorem zC2:ze Tryz.prog 102 [zz3,.agg [vi 2,vb false,vb false,vb false,vs ⟨#[]⟩,vi 0]] (.tup [.agg [vi 0,vi 0,vi 0],vb true]):=zh (x:=xtK []) (l:=zu) (fl:=zm) (wk:=zn) (lim:=900) (n:=60) (by decide +kernel)
def zak:Kn Tryz.prog:=⟨102,[zz3,.agg [vi 2,vb false,vb false,vb false,vs ⟨#[]⟩,vi 0]],.tup [.agg [vi 0,vi 0,vi 0],vb true],zC2⟩
def jN:V:=.slc 1 [[.slc 4 [[vi 2,.slc 3 [],.slc 3 [[vs ⟨#[109,97,114,103,105,110]⟩,.slc 3 [[vi 10,vs ⟨#[112,120]⟩,vi 1000]],vb false]],zI],[vi 2,.slc 3 [[vi 14,vs ⟨#[]⟩,vi 0],[vi 2,vs ⟨#[108,101,102,116]⟩,vi 0]],.slc 3 [[vs ⟨#[109,97,114,103,105,110,45,116,111,112]⟩,.slc 3 [[vi 10,vs ⟨#[112,120]⟩,vi 2000]],vb false]],zI]]]]
theorem zC3:ze Tryz.prog 35 [jN,.agg [vi 2,vb false,vb false,vb false,vs ⟨#[]⟩,vi 0],vi (-1),vi 9] (lw4):=zh (x:=xtK [kw0,kw1,kw2,kw4,kw5,kw7,kw8,j5,j6,Zs,Zt,ZV,ZW,Yn,Yo,YF,YG,Ql,Qm,QI,QJ,Kd,Ke,K4,K5,JU,JV,XN,XO,zah,zai,zaj,zak]) (l:=zu) (fl:=zm) (wk:=zn) (lim:=900) (n:=60) (by decide +kernel)
def zBF:Kn Tryz.prog:=⟨35,[jN,.agg [vi 2,vb false,vb false,vb false,vs ⟨#[]⟩,vi 0],vi (-1),vi 9],lw4,zC3⟩
theorem zC4:ze Tryz.prog 72 [vi 8,Zv] (vb false):=zh (x:=xtK []) (l:=zu) (fl:=zm) (wk:=zn) (lim:=900) (n:=60) (by decide +kernel)
def zbM:Kn Tryz.prog:=⟨72,[vi 8,Zv],vb false,zC4⟩
theorem zC5:ze Tryz.prog 72 [vi 8,Zw] (vb false):=zh (x:=xtK []) (l:=zu) (fl:=zm) (wk:=zn) (lim:=900) (n:=60) (by decide +kernel)
def zbN:Kn Tryz.prog:=⟨72,[vi 8,Zw],vb false,zC5⟩
theorem zC6:ze Tryz.prog 35 [jN,.agg [vi 2,vb false,vb false,vb false,vs ⟨#[]⟩,vi 0],vi (-1),vi 8] (lw4):=zh (x:=xtK [kw0,kw1,kw2,kw4,kw5,kw7,kw8,j5,j6,Zs,Zt,ZV,ZW,Yn,Yo,YF,YG,Ql,Qm,QI,QJ,Kd,Ke,K4,K5,JU,JV,XN,XO,zah,zai,zaj,zak,zbM,zbN]) (l:=zu) (fl:=zm) (wk:=zn) (lim:=900) (n:=60) (by decide +kernel)
def zBG:Kn Tryz.prog:=⟨35,[jN,.agg [vi 2,vb false,vb false,vb false,vs ⟨#[]⟩,vi 0],vi (-1),vi 8],lw4,zC6⟩
theorem zC7:ze Tryz.prog 72 [vi 7,Zv] (vb false):=zh (x:=xtK []) (l:=zu) (fl:=zm) (wk:=zn) (lim:=900) (n:=60) (by decide +kernel)
def zdF:Kn Tryz.prog:=⟨72,[vi 7,Zv],vb false,zC7⟩
theorem zC8:ze Tryz.prog 72 [vi 7,Zw] (vb false):=zh (x:=xtK []) (l:=zu) (fl:=zm) (wk:=zn) (lim:=900) (n:=60) (by decide +kernel)
def zdG:Kn Tryz.prog:=⟨72,[vi 7,Zw],vb false,zC8⟩
theorem zC9:ze Tryz.prog 35 [jN,.agg [vi 2,vb false,vb false,vb false,vs ⟨#[]⟩,vi 0],vi (-1),vi 7] (lw4):=zh (x:=xtK [kw0,kw1,kw2,kw4,kw5,kw7,kw8,j5,j6,Zs,Zt,ZV,ZW,Yn,Yo,YF,YG,Ql,Qm,QI,QJ,Kd,Ke,K4,K5,JU,JV,XN,XO,zah,zai,zaj,zak,zbM,zbN,zdF,zdG]) (l:=zu) (fl:=zm) (wk:=zn) (lim:=900) (n:=60) (by decide +kernel)
def zBH:Kn Tryz.prog:=⟨35,[jN,.agg [vi 2,vb false,vb false,vb false,vs ⟨#[]⟩,vi 0],vi (-1),vi 7],lw4,zC9⟩
theorem zDa:ze Tryz.prog 72 [vi 6,Zv] (vb false):=zh (x:=xtK []) (l:=zu) (fl:=zm) (wk:=zn) (lim:=900) (n:=60) (by decide +kernel)
def zgk:Kn Tryz.prog:=⟨72,[vi 6,Zv],vb false,zDa⟩
theorem zDb:ze Tryz.prog 72 [vi 6,Zw] (vb false):=zh (x:=xtK []) (l:=zu) (fl:=zm) (wk:=zn) (lim:=900) (n:=60) (by decide +kernel)
def zgl:Kn Tryz.prog:=⟨72,[vi 6,Zw],vb false,zDb⟩
theorem zDc:ze Tryz.prog 35 [jN,.agg [vi 2,vb false,vb false,vb false,vs ⟨#[]⟩,vi 0],vi (-1),vi 6] (lw4):=zh (x:=xtK [kw0,kw1,kw2,kw4,kw5,kw7,kw8,j5,j6,Zs,Zt,ZV,ZW,Yn,Yo,YF,YG,Ql,Qm,QI,QJ,Kd,Ke,K4,K5,JU,JV,XN,XO,zah,zai,zaj,zak,zbM,zbN,zdF,zdG,zgk,zgl]) (l:=zu) (fl:=zm) (wk:=zn) (lim:=900) (n:=60) (by decide +kernel)
def zBI:Kn Tryz.prog:=⟨35,[jN,.agg [vi 2,vb false,vb false,vb false,vs ⟨#[]⟩,vi 0],vi (-1),vi 6],lw4,zDc⟩
end Go.Proofs.YtlaopdfpncckeaaGreatDoor
