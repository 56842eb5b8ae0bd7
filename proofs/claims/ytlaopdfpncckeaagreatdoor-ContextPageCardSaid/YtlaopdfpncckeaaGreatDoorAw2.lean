/- Part of the proof of ContextPage. No condition. -/
import Derived.Test.YtlaopdfpncckeaaGreatDoorAw1
namespace Go.Proofs.YtlaopdfpncckeaaGreatDoor
open Go.Sx
set_option maxRecDepth 100000
theorem zB0:ze Tryz.prog 72 [vi 5,lw0] (vb false):=zh (x:=xtK []) (l:=zu) (fl:=zm) (wk:=zn) (lim:=900) (n:=60) (by decide +kernel)
def Ql:Kn Tryz.prog:=⟨72,[vi 5,lw0],vb false,zB0⟩
theorem zB1:ze Tryz.prog 72 [vi 5,lw1] (vb false):=zh (x:=xtK []) (l:=zu) (fl:=zm) (wk:=zn) (lim:=900) (n:=60) (by decide +kernel)
def Qm:Kn Tryz.prog:=⟨72,[vi 5,lw1],vb false,zB1⟩
theorem zB2:ze Tryz.prog 35 [lw3,.agg [vi 1,vb false,vb false,vb false,vs ⟨#[]⟩,vi 0],vi (-1),vi 5] (lw4):=zh (x:=xtK [kw0,kw1,kw2,kw4,kw5,kw7,kw8,j5,j6,Zs,Zt,ZV,ZW,Yn,Yo,YF,YG,Ql,Qm]) (l:=zu) (fl:=zm) (wk:=zn) (lim:=900) (n:=60) (by decide +kernel)
def zxz:Kn Tryz.prog:=⟨35,[lw3,.agg [vi 1,vb false,vb false,vb false,vs ⟨#[]⟩,vi 0],vi (-1),vi 5],lw4,zB2⟩
theorem zB3:ze Tryz.prog 72 [vi 4,lw0] (vb false):=zh (x:=xtK []) (l:=zu) (fl:=zm) (wk:=zn) (lim:=900) (n:=60) (by decide +kernel)
def QI:Kn Tryz.prog:=⟨72,[vi 4,lw0],vb false,zB3⟩
theorem zB4:ze Tryz.prog 72 [vi 4,lw1] (vb false):=zh (x:=xtK []) (l:=zu) (fl:=zm) (wk:=zn) (lim:=900) (n:=60) (by decide +kernel)
def QJ:Kn Tryz.prog:=⟨72,[vi 4,lw1],vb false,zB4⟩
theorem zB5:ze Tryz.prog 35 [lw3,.agg [vi 1,vb false,vb false,vb false,vs ⟨#[]⟩,vi 0],vi (-1),vi 4] (lw4):=zh (x:=xtK [kw0,kw1,kw2,kw4,kw5,kw7,kw8,j5,j6,Zs,Zt,ZV,ZW,Yn,Yo,YF,YG,Ql,Qm,QI,QJ]) (l:=zu) (fl:=zm) (wk:=zn) (lim:=900) (n:=60) (by decide +kernel)
def zxA:Kn Tryz.prog:=⟨35,[lw3,.agg [vi 1,vb false,vb false,vb false,vs ⟨#[]⟩,vi 0],vi (-1),vi 4],lw4,zB5⟩
theorem zB6:ze Tryz.prog 72 [vi 3,lw0] (vb false):=zh (x:=xtK []) (l:=zu) (fl:=zm) (wk:=zn) (lim:=900) (n:=60) (by decide +kernel)
def Kd:Kn Tryz.prog:=⟨72,[vi 3,lw0],vb false,zB6⟩
theorem zB7:ze Tryz.prog 72 [vi 3,lw1] (vb false):=zh (x:=xtK []) (l:=zu) (fl:=zm) (wk:=zn) (lim:=900) (n:=60) (by decide +kernel)
def Ke:Kn Tryz.prog:=⟨72,[vi 3,lw1],vb false,zB7⟩
theorem zB8:ze Tryz.prog 35 [lw3,.agg [vi 1,vb false,vb false,vb false,vs ⟨#[]⟩,vi 0],vi (-1),vi 3] (lw4):=zh (x:=xtK [kw0,kw1,kw2,kw4,kw5,kw7,kw8,j5,j6,Zs,Zt,ZV,ZW,Yn,Yo,YF,YG,Ql,Qm,QI,QJ,Kd,Ke]) (l:=zu) (fl:=zm) (wk:=zn) (lim:=900) (n:=60) (by decide +kernel)
def zxB:Kn Tryz.prog:=⟨35,[lw3,.agg [vi 1,vb false,vb false,vb false,vs ⟨#[]⟩,vi 0],vi (-1),vi 3],lw4,zB8⟩
theorem zB9:ze Tryz.prog 72 [vi 2,lw0] (vb false):=zh (x:=xtK []) (l:=zu) (fl:=zm) (wk:=zn) (lim:=900) (n:=60) (by decide +kernel)
def K4:Kn Tryz.prog:=⟨72,[vi 2,lw0],vb false,zB9⟩
theorem zCa:ze Tryz.prog 72 [vi 2,lw1] (vb false):=zh (x:=xtK []) (l:=zu) (fl:=zm) (wk:=zn) (lim:=900) (n:=60) (by decide +kernel)
def K5:Kn Tryz.prog:=⟨72,[vi 2,lw1],vb false,zCa⟩
theorem zCb:ze Tryz.prog 35 [lw3,.agg [vi 1,vb false,vb false,vb false,vs ⟨#[]⟩,vi 0],vi (-1),vi 2] (lw4):=zh (x:=xtK [kw0,kw1,kw2,kw4,kw5,kw7,kw8,j5,j6,Zs,Zt,ZV,ZW,Yn,Yo,YF,YG,Ql,Qm,QI,QJ,Kd,Ke,K4,K5]) (l:=zu) (fl:=zm) (wk:=zn) (lim:=900) (n:=60) (by decide +kernel)
def zxC:Kn Tryz.prog:=⟨35,[lw3,.agg [vi 1,vb false,vb false,vb false,vs ⟨#[]⟩,vi 0],vi (-1),vi 2],lw4,zCb⟩
theorem zCc:ze Tryz.prog 72 [vi 1,lw0] (vb false):=zh (x:=xtK []) (l:=zu) (fl:=zm) (wk:=zn) (lim:=900) (n:=60) (by decide +kernel)
def JU:Kn Tryz.prog:=⟨72,[vi 1,lw0],vb false,zCc⟩
theorem zCd:ze Tryz.prog 72 [vi 1,lw1] (vb false):=zh (x:=xtK []) (l:=zu) (fl:=zm) (wk:=zn) (lim:=900) (n:=60) (by decide +kernel)
def JV:Kn Tryz.prog:=⟨72,[vi 1,lw1],vb false,zCd⟩
theorem zCe:ze Tryz.prog 35 [lw3,.agg [vi 1,vb false,vb false,vb false,vs ⟨#[]⟩,vi 0],vi (-1),vi 1] (lw4):=zh (x:=xtK [kw0,kw1,kw2,kw4,kw5,kw7,kw8,j5,j6,Zs,Zt,ZV,ZW,Yn,Yo,YF,YG,Ql,Qm,QI,QJ,Kd,Ke,K4,K5,JU,JV]) (l:=zu) (fl:=zm) (wk:=zn) (lim:=900) (n:=60) (by decide +kernel)
def zxD:Kn Tryz.prog:=⟨35,[lw3,.agg [vi 1,vb false,vb false,vb false,vs ⟨#[]⟩,vi 0],vi (-1),vi 1],lw4,zCe⟩
theorem zCf:ze Tryz.prog 72 [vi 0,lw0] (vb false):=zh (x:=xtK []) (l:=zu) (fl:=zm) (wk:=zn) (lim:=900) (n:=60) (by decide +kernel)
def XN:Kn Tryz.prog:=⟨72,[vi 0,lw0],vb false,zCf⟩
theorem zCg:ze Tryz.prog 72 [vi 0,lw1] (vb false):=zh (x:=xtK []) (l:=zu) (fl:=zm) (wk:=zn) (lim:=900) (n:=60) (by decide +kernel)
def XO:Kn Tryz.prog:=⟨72,[vi 0,lw1],vb false,zCg⟩
theorem zCh:ze Tryz.prog 35 [lw3,.agg [vi 1,vb false,vb false,vb false,vs ⟨#[]⟩,vi 0],vi (-1),vi 0] (lw4):=zh (x:=xtK [kw0,kw1,kw2,kw4,kw5,kw7,kw8,j5,j6,Zs,Zt,ZV,ZW,Yn,Yo,YF,YG,Ql,Qm,QI,QJ,Kd,Ke,K4,K5,JU,JV,XN,XO]) (l:=zu) (fl:=zm) (wk:=zn) (lim:=900) (n:=60) (by decide +kernel)
def zxE:Kn Tryz.prog:=⟨35,[lw3,.agg [vi 1,vb false,vb false,vb false,vs ⟨#[]⟩,vi 0],vi (-1),vi 0],lw4,zCh⟩
def lw7:V:=.tup [.agg [vi 793700,vi 1122519,vi 48000,vi 48000,vi 48000,vi 48000,zI,zI,zI,vs ⟨#[114,101,100]⟩,vi 16000],vi 0]
theorem zCi:ze Tryz.prog 12 [lw3,.agg [vi 1,vb false,vb false,vb false,vs ⟨#[]⟩,vi 0]] (lw7):=zh (x:=xtK [kw3,kw6,kw9,zxu,zxv,zxw,zxx,zxy,zxz,zxA,zxB,zxC,zxD,zxE]) (l:=zu) (fl:=zm) (wk:=zn) (lim:=900) (n:=60) (by decide +kernel)
def zzm:Kn Tryz.prog:=⟨12,[lw3,.agg [vi 1,vb false,vb false,vb false,vs ⟨#[]⟩,vi 0]],lw7,zCi⟩
def lw8:V:=.tup [.agg [vb true,.slc 5 [[vi 1,vs ⟨#[120]⟩,vs ⟨#[]⟩,vi 0,vi 0]],vs ⟨#[114,101,100]⟩,vi 16000,vi (-1)],vi 0]
theorem zCj:ze Tryz.prog 23 [lw3,.agg [vi 1,vb false,vb false,vb false,vs ⟨#[]⟩,vi 0],vi 1] (lw8):=zh (x:=xtK [kw3,kw6,kw9,zxu,zxv,zxw,zxx,zxy,zxz,zxA,zxB,zxC,zxD,zxE,zzm]) (l:=zu) (fl:=zm) (wk:=zn) (lim:=900) (n:=60) (by decide +kernel)
def zBD:Kn Tryz.prog:=⟨23,[lw3,.agg [vi 1,vb false,vb false,vb false,vs ⟨#[]⟩,vi 0],vi 1],lw8,zCj⟩
theorem zCk:ze Tryz.prog 51 [.slc 3 []] (.tup [zI,vi 0]):=zh (x:=xtK []) (l:=zu) (fl:=zm) (wk:=zn) (lim:=900) (n:=60) (by decide +kernel)
def zdE:Kn Tryz.prog:=⟨51,[.slc 3 []],.tup [zI,vi 0],zCk⟩
theorem zCl:ze Tryz.prog 93 [.slc 3 []] (vb true):=zh (x:=xtK [zdE]) (l:=zu) (fl:=zm) (wk:=zn) (lim:=900) (n:=60) (by decide +kernel)
def zjH:Kn Tryz.prog:=⟨93,[.slc 3 []],vb true,zCl⟩
theorem zCm:ze Tryz.prog 51 [.slc 3 [[vi 6,vs ⟨#[120]⟩,vi 0]]] (.tup [.slc 1 [[vi (-1)]],vi 0]):=zh (x:=xtK []) (l:=zu) (fl:=zm) (wk:=zn) (lim:=900) (n:=60) (by decide +kernel)
def zgj:Kn Tryz.prog:=⟨51,[.slc 3 [[vi 6,vs ⟨#[120]⟩,vi 0]]],.tup [.slc 1 [[vi (-1)]],vi 0],zCm⟩
theorem zCn:ze Tryz.prog 93 [.slc 3 [[vi 6,vs ⟨#[120]⟩,vi 0]]] (vb true):=zh (x:=xtK [zdE,zgj]) (l:=zu) (fl:=zm) (wk:=zn) (lim:=900) (n:=60) (by decide +kernel)
def zjI:Kn Tryz.prog:=⟨93,[.slc 3 [[vi 6,vs ⟨#[120]⟩,vi 0]]],vb true,zCn⟩
def lw9:V:=.slc 3 [[vi 4,vs ⟨#[112,97,103,101]⟩,vi 0],[vi 12,vs ⟨#[123]⟩,vi 0],[vi 2,vs ⟨#[99,111,108,111,114]⟩,vi 0],[vi 14,vs ⟨#[]⟩,vi 0],[vi 2,vs ⟨#[114,101,100]⟩,vi 0],[vi 15,vs ⟨#[]⟩,vi 0],[vi 4,vs ⟨#[116,111,112,45,108,101,102,116]⟩,vi 0],[vi 12,vs ⟨#[123]⟩,vi 0],[vi 2,vs ⟨#[99,111,110,116,101,110,116]⟩,vi 0],[vi 14,vs ⟨#[]⟩,vi 0],[vi 6,vs ⟨#[120]⟩,vi 0],[vi 13,vs ⟨#[125]⟩,vi 0],[vi 13,vs ⟨#[125]⟩,vi 0]]
def zzQ:V:=.tup [.agg [vs ⟨#[99,111,110,116,101,110,116]⟩,.slc 3 [[vi 6,vs ⟨#[120]⟩,vi 0]],vb false],vb true]
theorem zCo:ze Tryz.prog 116 [lw9,vi 8,vi 11] (zzQ):=zh (x:=xtK [zjH,zjI]) (l:=zu) (fl:=zm) (wk:=zn) (lim:=900) (n:=60) (by decide +kernel)
def ztE:Kn Tryz.prog:=⟨116,[lw9,vi 8,vi 11],zzQ,zCo⟩
end Go.Proofs.YtlaopdfpncckeaaGreatDoor
