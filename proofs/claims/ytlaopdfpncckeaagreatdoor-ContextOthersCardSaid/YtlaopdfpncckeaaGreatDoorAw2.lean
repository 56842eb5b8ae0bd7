/- Part of the proof of ContextOthers. No condition. -/
import Derived.Test.YtlaopdfpncckeaaGreatDoorAw1
namespace Go.Proofs.YtlaopdfpncckeaaGreatDoor
open Go.Sx
set_option maxRecDepth 100000
theorem zA4:ze Tryz.prog 72 [vi 5,lw0] (vb false):=zg (x:=xtK []) (l:=zr) (fl:=zm) (wk:=zn) (lim:=900) (n:=60) (by decide +kernel)
def Y0:Kn Tryz.prog:=⟨72,[vi 5,lw0],vb false,zA4⟩
theorem zA5:ze Tryz.prog 72 [vi 5,lw1] (vb false):=zg (x:=xtK []) (l:=zr) (fl:=zm) (wk:=zn) (lim:=900) (n:=60) (by decide +kernel)
def Y1:Kn Tryz.prog:=⟨72,[vi 5,lw1],vb false,zA5⟩
theorem zA6:ze Tryz.prog 35 [lw3,.agg [vi 1,vb false,vb false,vb false,vs ⟨#[]⟩,vi 0],vi (-1),vi 5] (lw4):=zg (x:=xtK [kw0,kw1,kw2,kw4,kw5,kw7,kw8,jO,jP,j5,j6,ZD,ZE,Z0,Z1,Yi,Yj,Y0,Y1]) (l:=zr) (fl:=zm) (wk:=zn) (lim:=900) (n:=60) (by decide +kernel)
def zwC:Kn Tryz.prog:=⟨35,[lw3,.agg [vi 1,vb false,vb false,vb false,vs ⟨#[]⟩,vi 0],vi (-1),vi 5],lw4,zA6⟩
theorem zA7:ze Tryz.prog 72 [vi 4,lw0] (vb false):=zg (x:=xtK []) (l:=zr) (fl:=zm) (wk:=zn) (lim:=900) (n:=60) (by decide +kernel)
def Qp:Kn Tryz.prog:=⟨72,[vi 4,lw0],vb false,zA7⟩
theorem zA8:ze Tryz.prog 72 [vi 4,lw1] (vb false):=zg (x:=xtK []) (l:=zr) (fl:=zm) (wk:=zn) (lim:=900) (n:=60) (by decide +kernel)
def Qq:Kn Tryz.prog:=⟨72,[vi 4,lw1],vb false,zA8⟩
theorem zA9:ze Tryz.prog 35 [lw3,.agg [vi 1,vb false,vb false,vb false,vs ⟨#[]⟩,vi 0],vi (-1),vi 4] (lw4):=zg (x:=xtK [kw0,kw1,kw2,kw4,kw5,kw7,kw8,jO,jP,j5,j6,ZD,ZE,Z0,Z1,Yi,Yj,Y0,Y1,Qp,Qq]) (l:=zr) (fl:=zm) (wk:=zn) (lim:=900) (n:=60) (by decide +kernel)
def zwD:Kn Tryz.prog:=⟨35,[lw3,.agg [vi 1,vb false,vb false,vb false,vs ⟨#[]⟩,vi 0],vi (-1),vi 4],lw4,zA9⟩
theorem zBa:ze Tryz.prog 72 [vi 3,lw0] (vb false):=zg (x:=xtK []) (l:=zr) (fl:=zm) (wk:=zn) (lim:=900) (n:=60) (by decide +kernel)
def QX:Kn Tryz.prog:=⟨72,[vi 3,lw0],vb false,zBa⟩
theorem zBb:ze Tryz.prog 72 [vi 3,lw1] (vb false):=zg (x:=xtK []) (l:=zr) (fl:=zm) (wk:=zn) (lim:=900) (n:=60) (by decide +kernel)
def QY:Kn Tryz.prog:=⟨72,[vi 3,lw1],vb false,zBb⟩
theorem zBc:ze Tryz.prog 35 [lw3,.agg [vi 1,vb false,vb false,vb false,vs ⟨#[]⟩,vi 0],vi (-1),vi 3] (lw4):=zg (x:=xtK [kw0,kw1,kw2,kw4,kw5,kw7,kw8,jO,jP,j5,j6,ZD,ZE,Z0,Z1,Yi,Yj,Y0,Y1,Qp,Qq,QX,QY]) (l:=zr) (fl:=zm) (wk:=zn) (lim:=900) (n:=60) (by decide +kernel)
def zwE:Kn Tryz.prog:=⟨35,[lw3,.agg [vi 1,vb false,vb false,vb false,vs ⟨#[]⟩,vi 0],vi (-1),vi 3],lw4,zBc⟩
theorem zBd:ze Tryz.prog 72 [vi 2,lw0] (vb false):=zg (x:=xtK []) (l:=zr) (fl:=zm) (wk:=zn) (lim:=900) (n:=60) (by decide +kernel)
def KQ:Kn Tryz.prog:=⟨72,[vi 2,lw0],vb false,zBd⟩
theorem zBe:ze Tryz.prog 72 [vi 2,lw1] (vb false):=zg (x:=xtK []) (l:=zr) (fl:=zm) (wk:=zn) (lim:=900) (n:=60) (by decide +kernel)
def KR:Kn Tryz.prog:=⟨72,[vi 2,lw1],vb false,zBe⟩
theorem zBf:ze Tryz.prog 35 [lw3,.agg [vi 1,vb false,vb false,vb false,vs ⟨#[]⟩,vi 0],vi (-1),vi 2] (lw4):=zg (x:=xtK [kw0,kw1,kw2,kw4,kw5,kw7,kw8,jO,jP,j5,j6,ZD,ZE,Z0,Z1,Yi,Yj,Y0,Y1,Qp,Qq,QX,QY,KQ,KR]) (l:=zr) (fl:=zm) (wk:=zn) (lim:=900) (n:=60) (by decide +kernel)
def zwF:Kn Tryz.prog:=⟨35,[lw3,.agg [vi 1,vb false,vb false,vb false,vs ⟨#[]⟩,vi 0],vi (-1),vi 2],lw4,zBf⟩
theorem zBg:ze Tryz.prog 72 [vi 1,lw0] (vb false):=zg (x:=xtK []) (l:=zr) (fl:=zm) (wk:=zn) (lim:=900) (n:=60) (by decide +kernel)
def JK:Kn Tryz.prog:=⟨72,[vi 1,lw0],vb false,zBg⟩
theorem zBh:ze Tryz.prog 72 [vi 1,lw1] (vb false):=zg (x:=xtK []) (l:=zr) (fl:=zm) (wk:=zn) (lim:=900) (n:=60) (by decide +kernel)
def JL:Kn Tryz.prog:=⟨72,[vi 1,lw1],vb false,zBh⟩
theorem zBi:ze Tryz.prog 35 [lw3,.agg [vi 1,vb false,vb false,vb false,vs ⟨#[]⟩,vi 0],vi (-1),vi 1] (lw4):=zg (x:=xtK [kw0,kw1,kw2,kw4,kw5,kw7,kw8,jO,jP,j5,j6,ZD,ZE,Z0,Z1,Yi,Yj,Y0,Y1,Qp,Qq,QX,QY,KQ,KR,JK,JL]) (l:=zr) (fl:=zm) (wk:=zn) (lim:=900) (n:=60) (by decide +kernel)
def zwG:Kn Tryz.prog:=⟨35,[lw3,.agg [vi 1,vb false,vb false,vb false,vs ⟨#[]⟩,vi 0],vi (-1),vi 1],lw4,zBi⟩
theorem zBj:ze Tryz.prog 72 [vi 0,lw0] (vb false):=zg (x:=xtK []) (l:=zr) (fl:=zm) (wk:=zn) (lim:=900) (n:=60) (by decide +kernel)
def Xz:Kn Tryz.prog:=⟨72,[vi 0,lw0],vb false,zBj⟩
theorem zBk:ze Tryz.prog 72 [vi 0,lw1] (vb false):=zg (x:=xtK []) (l:=zr) (fl:=zm) (wk:=zn) (lim:=900) (n:=60) (by decide +kernel)
def XA:Kn Tryz.prog:=⟨72,[vi 0,lw1],vb false,zBk⟩
theorem zBl:ze Tryz.prog 35 [lw3,.agg [vi 1,vb false,vb false,vb false,vs ⟨#[]⟩,vi 0],vi (-1),vi 0] (lw4):=zg (x:=xtK [kw0,kw1,kw2,kw4,kw5,kw7,kw8,jO,jP,j5,j6,ZD,ZE,Z0,Z1,Yi,Yj,Y0,Y1,Qp,Qq,QX,QY,KQ,KR,JK,JL,Xz,XA]) (l:=zr) (fl:=zm) (wk:=zn) (lim:=900) (n:=60) (by decide +kernel)
def zwH:Kn Tryz.prog:=⟨35,[lw3,.agg [vi 1,vb false,vb false,vb false,vs ⟨#[]⟩,vi 0],vi (-1),vi 0],lw4,zBl⟩
def lw7:V:=.tup [.agg [vi 793700,vi 1122519,vi 48000,vi 48000,vi 48000,vi 48000,zB,zB,zB,vs ⟨#[114,101,100]⟩,vi 16000],vi 0]
theorem zBm:ze Tryz.prog 12 [lw3,.agg [vi 1,vb false,vb false,vb false,vs ⟨#[]⟩,vi 0]] (lw7):=zg (x:=xtK [kw3,kw6,kw9,zwx,zwy,zwz,zwA,zwB,zwC,zwD,zwE,zwF,zwG,zwH]) (l:=zr) (fl:=zm) (wk:=zn) (lim:=900) (n:=60) (by decide +kernel)
def zyq:Kn Tryz.prog:=⟨12,[lw3,.agg [vi 1,vb false,vb false,vb false,vs ⟨#[]⟩,vi 0]],lw7,zBm⟩
def lw8:V:=.tup [.agg [vb true,.slc 5 [[vi 1,vs ⟨#[120]⟩,vs ⟨#[]⟩,vi 0,vi 0]],vs ⟨#[114,101,100]⟩,vi 16000,vi (-1)],vi 0]
theorem zBn:ze Tryz.prog 23 [lw3,.agg [vi 1,vb false,vb false,vb false,vs ⟨#[]⟩,vi 0],vi 1] (lw8):=zg (x:=xtK [kw3,kw6,kw9,zwx,zwy,zwz,zwA,zwB,zwC,zwD,zwE,zwF,zwG,zwH,zyq]) (l:=zr) (fl:=zm) (wk:=zn) (lim:=900) (n:=60) (by decide +kernel)
def zAG:Kn Tryz.prog:=⟨23,[lw3,.agg [vi 1,vb false,vb false,vb false,vs ⟨#[]⟩,vi 0],vi 1],lw8,zBn⟩
theorem zBo:ze Tryz.prog 51 [.slc 3 []] (.tup [zB,vi 0]):=zg (x:=xtK []) (l:=zr) (fl:=zm) (wk:=zn) (lim:=900) (n:=60) (by decide +kernel)
def zc3:Kn Tryz.prog:=⟨51,[.slc 3 []],.tup [zB,vi 0],zBo⟩
theorem zBp:ze Tryz.prog 93 [.slc 3 []] (vb true):=zg (x:=xtK [zc3]) (l:=zr) (fl:=zm) (wk:=zn) (lim:=900) (n:=60) (by decide +kernel)
def ziW:Kn Tryz.prog:=⟨93,[.slc 3 []],vb true,zBp⟩
theorem zBq:ze Tryz.prog 51 [.slc 3 [[vi 6,vs ⟨#[120]⟩,vi 0]]] (.tup [.slc 1 [[vi (-1)]],vi 0]):=zg (x:=xtK []) (l:=zr) (fl:=zm) (wk:=zn) (lim:=900) (n:=60) (by decide +kernel)
def zfL:Kn Tryz.prog:=⟨51,[.slc 3 [[vi 6,vs ⟨#[120]⟩,vi 0]]],.tup [.slc 1 [[vi (-1)]],vi 0],zBq⟩
theorem zBr:ze Tryz.prog 93 [.slc 3 [[vi 6,vs ⟨#[120]⟩,vi 0]]] (vb true):=zg (x:=xtK [zc3,zfL]) (l:=zr) (fl:=zm) (wk:=zn) (lim:=900) (n:=60) (by decide +kernel)
def ziX:Kn Tryz.prog:=⟨93,[.slc 3 [[vi 6,vs ⟨#[120]⟩,vi 0]]],vb true,zBr⟩
def lw9:V:=.slc 3 [[vi 4,vs ⟨#[112,97,103,101]⟩,vi 0],[vi 12,vs ⟨#[123]⟩,vi 0],[vi 2,vs ⟨#[99,111,108,111,114]⟩,vi 0],[vi 14,vs ⟨#[]⟩,vi 0],[vi 2,vs ⟨#[114,101,100]⟩,vi 0],[vi 15,vs ⟨#[]⟩,vi 0],[vi 4,vs ⟨#[116,111,112,45,108,101,102,116]⟩,vi 0],[vi 12,vs ⟨#[123]⟩,vi 0],[vi 2,vs ⟨#[99,111,110,116,101,110,116]⟩,vi 0],[vi 14,vs ⟨#[]⟩,vi 0],[vi 6,vs ⟨#[120]⟩,vi 0],[vi 13,vs ⟨#[125]⟩,vi 0],[vi 13,vs ⟨#[125]⟩,vi 0]]
def zyU:V:=.tup [.agg [vs ⟨#[99,111,110,116,101,110,116]⟩,.slc 3 [[vi 6,vs ⟨#[120]⟩,vi 0]],vb false],vb true]
theorem zBs:ze Tryz.prog 116 [lw9,vi 8,vi 11] (zyU):=zg (x:=xtK [ziW,ziX]) (l:=zr) (fl:=zm) (wk:=zn) (lim:=900) (n:=60) (by decide +kernel)
def zsG:Kn Tryz.prog:=⟨116,[lw9,vi 8,vi 11],zyU,zBs⟩
end Go.Proofs.YtlaopdfpncckeaaGreatDoor
