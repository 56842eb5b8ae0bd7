/- Part of the proof of ContextOthers. No condition. -/
import Derived.Test.YtlaopdfpncckeaaGreatDoorAw3
namespace Go.Proofs.YtlaopdfpncckeaaGreatDoor
open Go.Sx
set_option maxRecDepth 100000
theorem zBT:ze Tryz.prog 113 [yg,vi 11] (.tup [vi 11,vb false]):=zg (x:=xtK []) (l:=zr) (fl:=zm) (wk:=zn) (lim:=900) (n:=60) (by decide +kernel)
def zyK:Kn Tryz.prog:=⟨113,[yg,vi 11],.tup [vi 11,vb false],zBT⟩
def zy1:V:=.tup [.agg [vi 2,vs ⟨#[99,111,108,111,114]⟩,vi 0],vi 11]
theorem zBU:ze Tryz.prog 114 [yg,vi 6] (zy1):=zg (x:=xtK []) (l:=zr) (fl:=zm) (wk:=zn) (lim:=900) (n:=60) (by decide +kernel)
def zyL:Kn Tryz.prog:=⟨114,[yg,vi 6],zy1,zBU⟩
theorem zBV:ze Tryz.prog 113 [yg,vi 6] (.tup [vi 6,vb false]):=zg (x:=xtK []) (l:=zr) (fl:=zm) (wk:=zn) (lim:=900) (n:=60) (by decide +kernel)
def zyM:Kn Tryz.prog:=⟨113,[yg,vi 6],.tup [vi 6,vb false],zBV⟩
theorem zBW:ze Tryz.prog 114 [yg,vi 5] (.tup [.agg [vi 12,vs ⟨#[123]⟩,vi 0],vi 6]):=zg (x:=xtK []) (l:=zr) (fl:=zm) (wk:=zn) (lim:=900) (n:=60) (by decide +kernel)
def zyN:Kn Tryz.prog:=⟨114,[yg,vi 5],.tup [.agg [vi 12,vs ⟨#[123]⟩,vi 0],vi 6],zBW⟩
theorem zBX:ze Tryz.prog 113 [yg,vi 5] (.tup [vi 5,vb false]):=zg (x:=xtK []) (l:=zr) (fl:=zm) (wk:=zn) (lim:=900) (n:=60) (by decide +kernel)
def zyO:Kn Tryz.prog:=⟨113,[yg,vi 5],.tup [vi 5,vb false],zBX⟩
theorem zBY:ze Tryz.prog 114 [yg,vi 0] (.tup [.agg [vi 4,vs ⟨#[112,97,103,101]⟩,vi 0],vi 5]):=zg (x:=xtK []) (l:=zr) (fl:=zm) (wk:=zn) (lim:=900) (n:=60) (by decide +kernel)
def zyP:Kn Tryz.prog:=⟨114,[yg,vi 0],.tup [.agg [vi 4,vs ⟨#[112,97,103,101]⟩,vi 0],vi 5],zBY⟩
theorem zBZ:ze Tryz.prog 113 [yg,vi 0] (.tup [vi 0,vb false]):=zg (x:=xtK []) (l:=zr) (fl:=zm) (wk:=zn) (lim:=900) (n:=60) (by decide +kernel)
def zyQ:Kn Tryz.prog:=⟨113,[yg,vi 0],.tup [vi 0,vb false],zBZ⟩
def zi5:V:=.slc 1 [[.c (.int .u8 64)],[.c (.int .u8 112)],[.c (.int .u8 97)],[.c (.int .u8 103)],[.c (.int .u8 101)],[.c (.int .u8 123)],[.c (.int .u8 99)],[.c (.int .u8 111)],[.c (.int .u8 108)],[.c (.int .u8 111)],[.c (.int .u8 114)],[.c (.int .u8 58)],[.c (.int .u8 114)],[.c (.int .u8 101)],[.c (.int .u8 100)],[.c (.int .u8 59)],[.c (.int .u8 64)],[.c (.int .u8 116)],[.c (.int .u8 111)],[.c (.int .u8 112)],[.c (.int .u8 45)],[.c (.int .u8 108)],[.c (.int .u8 101)],[.c (.int .u8 102)],[.c (.int .u8 116)],[.c (.int .u8 123)],[.c (.int .u8 99)],[.c (.int .u8 111)],[.c (.int .u8 110)],[.c (.int .u8 116)],[.c (.int .u8 101)],[.c (.int .u8 110)],[.c (.int .u8 116)],[.c (.int .u8 58)],[.c (.int .u8 39)],[.c (.int .u8 120)],[.c (.int .u8 39)],[.c (.int .u8 125)],[.c (.int .u8 125)]]
theorem zB0:ze Tryz.prog 112 [zi5] (yg):=zg (x:=xtK []) (l:=zr) (fl:=zm) (wk:=zn) (lim:=900) (n:=60) (by decide +kernel)
def zyR:Kn Tryz.prog:=⟨112,[zi5],yg,zB0⟩
def zy2:V:=.tup [.slc 3 [[vi 4,vs ⟨#[112,97,103,101]⟩,vi 0],[vi 12,vs ⟨#[123]⟩,vi 0],[vi 2,vs ⟨#[99,111,108,111,114]⟩,vi 0],[vi 14,vs ⟨#[]⟩,vi 0],[vi 2,vs ⟨#[114,101,100]⟩,vi 0],[vi 15,vs ⟨#[]⟩,vi 0],[vi 4,vs ⟨#[116,111,112,45,108,101,102,116]⟩,vi 0],[vi 12,vs ⟨#[123]⟩,vi 0],[vi 2,vs ⟨#[99,111,110,116,101,110,116]⟩,vi 0],[vi 14,vs ⟨#[]⟩,vi 0],[vi 6,vs ⟨#[120]⟩,vi 0],[vi 13,vs ⟨#[125]⟩,vi 0],[vi 13,vs ⟨#[125]⟩,vi 0]],vi 0]
theorem zB1:ze Tryz.prog 89 [zi5] (zy2):=zg (x:=xtK [zyr,zys,zyt,zyu,zyv,zyw,zyx,zyy,zyz,zyA,zyB,zyC,zyD,zyE,zyF,zyG,zyH,zyI,zyJ,zyK,zyL,zyM,zyN,zyO,zyP,zyQ,zyR]) (l:=zr) (fl:=zm) (wk:=zn) (lim:=900) (n:=60) (by decide +kernel)
def zyS:Kn Tryz.prog:=⟨89,[zi5],zy2,zB1⟩
def zy3:V:=.tup [.slc 4 [[vi 2,.slc 3 [],.slc 3 [[vs ⟨#[99,111,108,111,114]⟩,.slc 3 [[vi 2,vs ⟨#[114,101,100]⟩,vi 0]],vb false]],.slc 2 [[vs ⟨#[116,111,112,45,108,101,102,116]⟩,.slc 3 [[vs ⟨#[99,111,110,116,101,110,116]⟩,.slc 3 [[vi 6,vs ⟨#[120]⟩,vi 0]],vb false]]]]]],vi 0]
theorem zB2:ze Tryz.prog 62 [zi5] (zy3):=zg (x:=xtK [zc3,ziW,zfL,ziX,zmM,ziY,zmN,zsH,zmO,zyS]) (l:=zr) (fl:=zm) (wk:=zn) (lim:=900) (n:=60) (by decide +kernel)
def zyT:Kn Tryz.prog:=⟨62,[zi5],zy3,zB2⟩
def zy4:V:=vs ⟨#[64,112,97,103,101,123,99,111,108,111,114,58,114,101,100,59,64,116,111,112,45,108,101,102,116,123,99,111,110,116,101,110,116,58,39,120,39,125,125]⟩
def zy5:V:=.slc 4 [[vi 2,.slc 3 [],.slc 3 [[vs ⟨#[99,111,108,111,114]⟩,.slc 3 [[vi 2,vs ⟨#[114,101,100]⟩,vi 0]],vb false]],.slc 2 [[vs ⟨#[116,111,112,45,108,101,102,116]⟩,.slc 3 [[vs ⟨#[99,111,110,116,101,110,116]⟩,.slc 3 [[vi 6,vs ⟨#[120]⟩,vi 0]],vb false]]]]]]
theorem zB3:ze Tryz.prog 25 [zy4] (zy5):=zg (x:=xtK [zyT]) (l:=zr) (fl:=zm) (wk:=zn) (lim:=900) (n:=60) (by decide +kernel)
def zAH:Kn Tryz.prog:=⟨25,[zy4],zy5,zB3⟩
def Zb:V:=.agg [vs ⟨#[109,97,114,103,105,110,45,116,111,112]⟩,.slc 3 [[vi 10,vs ⟨#[112,120]⟩,vi 2000]],vb false]
theorem zB4:ze Tryz.prog 72 [vi 9,Zb] (vb false):=zg (x:=xtK []) (l:=zr) (fl:=zm) (wk:=zn) (lim:=900) (n:=60) (by decide +kernel)
def WU:Kn Tryz.prog:=⟨72,[vi 9,Zb],vb false,zB4⟩
def zy6:V:=.agg [vi 2,.slc 3 [[vi 14,vs ⟨#[]⟩,vi 0],[vi 2,vs ⟨#[108,101,102,116]⟩,vi 0]],.slc 3 [[vs ⟨#[109,97,114,103,105,110,45,116,111,112]⟩,.slc 3 [[vi 10,vs ⟨#[112,120]⟩,vi 2000]],vb false]],zB]
theorem zB5:ze Tryz.prog 102 [zy6,.agg [vi 2,vb false,vb false,vb false,vs ⟨#[]⟩,vi 0]] (.tup [.agg [vi 0,vi 0,vi 1],vb true]):=zg (x:=xtK []) (l:=zr) (fl:=zm) (wk:=zn) (lim:=900) (n:=60) (by decide +kernel)
def WV:Kn Tryz.prog:=⟨102,[zy6,.agg [vi 2,vb false,vb false,vb false,vs ⟨#[]⟩,vi 0]],.tup [.agg [vi 0,vi 0,vi 1],vb true],zB5⟩
def Zc:V:=.agg [vs ⟨#[109,97,114,103,105,110]⟩,.slc 3 [[vi 10,vs ⟨#[112,120]⟩,vi 1000]],vb false]
theorem zB6:ze Tryz.prog 72 [vi 9,Zc] (vb false):=zg (x:=xtK []) (l:=zr) (fl:=zm) (wk:=zn) (lim:=900) (n:=60) (by decide +kernel)
def WW:Kn Tryz.prog:=⟨72,[vi 9,Zc],vb false,zB6⟩
def zy7:V:=.agg [vi 2,.slc 3 [],.slc 3 [[vs ⟨#[109,97,114,103,105,110]⟩,.slc 3 [[vi 10,vs ⟨#[112,120]⟩,vi 1000]],vb false]],zB]
theorem zB7:ze Tryz.prog 102 [zy7,.agg [vi 2,vb false,vb false,vb false,vs ⟨#[]⟩,vi 0]] (.tup [.agg [vi 0,vi 0,vi 0],vb true]):=zg (x:=xtK []) (l:=zr) (fl:=zm) (wk:=zn) (lim:=900) (n:=60) (by decide +kernel)
def WX:Kn Tryz.prog:=⟨102,[zy7,.agg [vi 2,vb false,vb false,vb false,vs ⟨#[]⟩,vi 0]],.tup [.agg [vi 0,vi 0,vi 0],vb true],zB7⟩
def jA:V:=.slc 1 [[.slc 4 [[vi 2,.slc 3 [],.slc 3 [[vs ⟨#[109,97,114,103,105,110]⟩,.slc 3 [[vi 10,vs ⟨#[112,120]⟩,vi 1000]],vb false]],zB],[vi 2,.slc 3 [[vi 14,vs ⟨#[]⟩,vi 0],[vi 2,vs ⟨#[108,101,102,116]⟩,vi 0]],.slc 3 [[vs ⟨#[109,97,114,103,105,110,45,116,111,112]⟩,.slc 3 [[vi 10,vs ⟨#[112,120]⟩,vi 2000]],vb false]],zB]]]]
theorem zB8:ze Tryz.prog 35 [jA,.agg [vi 2,vb false,vb false,vb false,vs ⟨#[]⟩,vi 0],vi (-1),vi 9] (lw4):=zg (x:=xtK [kw0,kw1,kw2,kw4,kw5,kw7,kw8,jO,jP,j5,j6,ZD,ZE,Z0,Z1,Yi,Yj,Y0,Y1,Qp,Qq,QX,QY,KQ,KR,JK,JL,Xz,XA,WU,WV,WW,WX]) (l:=zr) (fl:=zm) (wk:=zn) (lim:=900) (n:=60) (by decide +kernel)
def zAI:Kn Tryz.prog:=⟨35,[jA,.agg [vi 2,vb false,vb false,vb false,vs ⟨#[]⟩,vi 0],vi (-1),vi 9],lw4,zB8⟩
theorem zB9:ze Tryz.prog 72 [vi 8,Zb] (vb false):=zg (x:=xtK []) (l:=zr) (fl:=zm) (wk:=zn) (lim:=900) (n:=60) (by decide +kernel)
def zbp:Kn Tryz.prog:=⟨72,[vi 8,Zb],vb false,zB9⟩
theorem zCa:ze Tryz.prog 72 [vi 8,Zc] (vb false):=zg (x:=xtK []) (l:=zr) (fl:=zm) (wk:=zn) (lim:=900) (n:=60) (by decide +kernel)
def zbq:Kn Tryz.prog:=⟨72,[vi 8,Zc],vb false,zCa⟩
theorem zCb:ze Tryz.prog 35 [jA,.agg [vi 2,vb false,vb false,vb false,vs ⟨#[]⟩,vi 0],vi (-1),vi 8] (lw4):=zg (x:=xtK [kw0,kw1,kw2,kw4,kw5,kw7,kw8,jO,jP,j5,j6,ZD,ZE,Z0,Z1,Yi,Yj,Y0,Y1,Qp,Qq,QX,QY,KQ,KR,JK,JL,Xz,XA,WU,WV,WW,WX,zbp,zbq]) (l:=zr) (fl:=zm) (wk:=zn) (lim:=900) (n:=60) (by decide +kernel)
def zAJ:Kn Tryz.prog:=⟨35,[jA,.agg [vi 2,vb false,vb false,vb false,vs ⟨#[]⟩,vi 0],vi (-1),vi 8],lw4,zCb⟩
theorem zCc:ze Tryz.prog 72 [vi 7,Zb] (vb false):=zg (x:=xtK []) (l:=zr) (fl:=zm) (wk:=zn) (lim:=900) (n:=60) (by decide +kernel)
def zc4:Kn Tryz.prog:=⟨72,[vi 7,Zb],vb false,zCc⟩
theorem zCd:ze Tryz.prog 72 [vi 7,Zc] (vb false):=zg (x:=xtK []) (l:=zr) (fl:=zm) (wk:=zn) (lim:=900) (n:=60) (by decide +kernel)
def zc5:Kn Tryz.prog:=⟨72,[vi 7,Zc],vb false,zCd⟩
theorem zCe:ze Tryz.prog 35 [jA,.agg [vi 2,vb false,vb false,vb false,vs ⟨#[]⟩,vi 0],vi (-1),vi 7] (lw4):=zg (x:=xtK [kw0,kw1,kw2,kw4,kw5,kw7,kw8,jO,jP,j5,j6,ZD,ZE,Z0,Z1,Yi,Yj,Y0,Y1,Qp,Qq,QX,QY,KQ,KR,JK,JL,Xz,XA,WU,WV,WW,WX,zbp,zbq,zc4,zc5]) (l:=zr) (fl:=zm) (wk:=zn) (lim:=900) (n:=60) (by decide +kernel)
def zAK:Kn Tryz.prog:=⟨35,[jA,.agg [vi 2,vb false,vb false,vb false,vs ⟨#[]⟩,vi 0],vi (-1),vi 7],lw4,zCe⟩
theorem zCf:ze Tryz.prog 72 [vi 6,Zb] (vb false):=zg (x:=xtK []) (l:=zr) (fl:=zm) (wk:=zn) (lim:=900) (n:=60) (by decide +kernel)
def zfM:Kn Tryz.prog:=⟨72,[vi 6,Zb],vb false,zCf⟩
theorem zCg:ze Tryz.prog 72 [vi 6,Zc] (vb false):=zg (x:=xtK []) (l:=zr) (fl:=zm) (wk:=zn) (lim:=900) (n:=60) (by decide +kernel)
def zfN:Kn Tryz.prog:=⟨72,[vi 6,Zc],vb false,zCg⟩
theorem zCh:ze Tryz.prog 35 [jA,.agg [vi 2,vb false,vb false,vb false,vs ⟨#[]⟩,vi 0],vi (-1),vi 6] (lw4):=zg (x:=xtK [kw0,kw1,kw2,kw4,kw5,kw7,kw8,jO,jP,j5,j6,ZD,ZE,Z0,Z1,Yi,Yj,Y0,Y1,Qp,Qq,QX,QY,KQ,KR,JK,JL,Xz,XA,WU,WV,WW,WX,zbp,zbq,zc4,zc5,zfM,zfN]) (l:=zr) (fl:=zm) (wk:=zn) (lim:=900) (n:=60) (by decide +kernel)
def zAL:Kn Tryz.prog:=⟨35,[jA,.agg [vi 2,vb false,vb false,vb false,vs ⟨#[]⟩,vi 0],vi (-1),vi 6],lw4,zCh⟩
end Go.Proofs.YtlaopdfpncckeaaGreatDoor
