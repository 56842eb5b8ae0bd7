/- Part of the proof of ContextPage. No condition. -/
import Derived.Test.YtlaopdfpncckeaaGreatDoorAw4
namespace Go.Proofs.YtlaopdfpncckeaaGreatDoor
open Go.Sx
set_option maxRecDepth 100000
theorem zAp:ze Tryz.prog 72 [vi 5,Zv] (vb false):=zh (x:=xtK []) (l:=zu) (fl:=zm) (wk:=zn) (lim:=900) (n:=60) (by decide +kernel)
def zaX:Kn Tryz.prog:=⟨72,[vi 5,Zv],vb false,zAp⟩
theorem zAq:ze Tryz.prog 72 [vi 5,Zw] (vb false):=zh (x:=xtK []) (l:=zu) (fl:=zm) (wk:=zn) (lim:=900) (n:=60) (by decide +kernel)
def zaY:Kn Tryz.prog:=⟨72,[vi 5,Zw],vb false,zAq⟩
theorem zAr:ze Tryz.prog 35 [jN,.agg [vi 2,vb false,vb false,vb false,vs ⟨#[]⟩,vi 0],vi (-1),vi 5] (lw4):=zh (x:=xtK [kw0,kw1,kw2,kw4,kw5,kw7,kw8,j5,j6,Zs,Zt,ZV,ZW,Yn,Yo,YF,YG,Ql,Qm,QI,QJ,Kd,Ke,K4,K5,JU,JV,XN,XO,zah,zai,zaj,zak,zbM,zbN,zdF,zdG,zgk,zgl,zaX,zaY]) (l:=zu) (fl:=zm) (wk:=zn) (lim:=900) (n:=60) (by decide +kernel)
def zyE:Kn Tryz.prog:=⟨35,[jN,.agg [vi 2,vb false,vb false,vb false,vs ⟨#[]⟩,vi 0],vi (-1),vi 5],lw4,zAr⟩
theorem zAs:ze Tryz.prog 72 [vi 4,Zv] (vb false):=zh (x:=xtK []) (l:=zu) (fl:=zm) (wk:=zn) (lim:=900) (n:=60) (by decide +kernel)
def zdC:Kn Tryz.prog:=⟨72,[vi 4,Zv],vb false,zAs⟩
theorem zAt:ze Tryz.prog 72 [vi 4,Zw] (vb true):=zh (x:=xtK []) (l:=zu) (fl:=zm) (wk:=zn) (lim:=900) (n:=60) (by decide +kernel)
def zdD:Kn Tryz.prog:=⟨72,[vi 4,Zw],vb true,zAt⟩
def zjR:V:=.tup [.agg [vs ⟨#[109,97,114,103,105,110]⟩,.slc 3 [[vi 10,vs ⟨#[112,120]⟩,vi 1000]],vb false],.agg [vi 0,vi 0,vi 0,vi 0,vi 0],vb true]
theorem zAu:ze Tryz.prog 35 [jN,.agg [vi 2,vb false,vb false,vb false,vs ⟨#[]⟩,vi 0],vi (-1),vi 4] (zjR):=zh (x:=xtK [kw0,kw1,kw2,kw4,kw5,kw7,kw8,j5,j6,Zs,Zt,ZV,ZW,Yn,Yo,YF,YG,Ql,Qm,QI,QJ,Kd,Ke,K4,K5,JU,JV,XN,XO,zah,zai,zaj,zak,zbM,zbN,zdF,zdG,zgk,zgl,zaX,zaY,zdC,zdD]) (l:=zu) (fl:=zm) (wk:=zn) (lim:=900) (n:=60) (by decide +kernel)
def zyF:Kn Tryz.prog:=⟨35,[jN,.agg [vi 2,vb false,vb false,vb false,vs ⟨#[]⟩,vi 0],vi (-1),vi 4],zjR,zAu⟩
theorem zAv:ze Tryz.prog 72 [vi 3,Zv] (vb false):=zh (x:=xtK []) (l:=zu) (fl:=zm) (wk:=zn) (lim:=900) (n:=60) (by decide +kernel)
def ziq:Kn Tryz.prog:=⟨72,[vi 3,Zv],vb false,zAv⟩
theorem zAw:ze Tryz.prog 72 [vi 3,Zw] (vb true):=zh (x:=xtK []) (l:=zu) (fl:=zm) (wk:=zn) (lim:=900) (n:=60) (by decide +kernel)
def zir:Kn Tryz.prog:=⟨72,[vi 3,Zw],vb true,zAw⟩
theorem zAx:ze Tryz.prog 35 [jN,.agg [vi 2,vb false,vb false,vb false,vs ⟨#[]⟩,vi 0],vi (-1),vi 3] (zjR):=zh (x:=xtK [kw0,kw1,kw2,kw4,kw5,kw7,kw8,j5,j6,Zs,Zt,ZV,ZW,Yn,Yo,YF,YG,Ql,Qm,QI,QJ,Kd,Ke,K4,K5,JU,JV,XN,XO,zah,zai,zaj,zak,zbM,zbN,zdF,zdG,zgk,zgl,zaX,zaY,zdC,zdD,ziq,zir]) (l:=zu) (fl:=zm) (wk:=zn) (lim:=900) (n:=60) (by decide +kernel)
def zyG:Kn Tryz.prog:=⟨35,[jN,.agg [vi 2,vb false,vb false,vb false,vs ⟨#[]⟩,vi 0],vi (-1),vi 3],zjR,zAx⟩
theorem zAy:ze Tryz.prog 72 [vi 2,Zv] (vb false):=zh (x:=xtK []) (l:=zu) (fl:=zm) (wk:=zn) (lim:=900) (n:=60) (by decide +kernel)
def znU:Kn Tryz.prog:=⟨72,[vi 2,Zv],vb false,zAy⟩
theorem zAz:ze Tryz.prog 72 [vi 2,Zw] (vb true):=zh (x:=xtK []) (l:=zu) (fl:=zm) (wk:=zn) (lim:=900) (n:=60) (by decide +kernel)
def znV:Kn Tryz.prog:=⟨72,[vi 2,Zw],vb true,zAz⟩
theorem zAA:ze Tryz.prog 35 [jN,.agg [vi 2,vb false,vb false,vb false,vs ⟨#[]⟩,vi 0],vi (-1),vi 2] (zjR):=zh (x:=xtK [kw0,kw1,kw2,kw4,kw5,kw7,kw8,j5,j6,Zs,Zt,ZV,ZW,Yn,Yo,YF,YG,Ql,Qm,QI,QJ,Kd,Ke,K4,K5,JU,JV,XN,XO,zah,zai,zaj,zak,zbM,zbN,zdF,zdG,zgk,zgl,zaX,zaY,zdC,zdD,ziq,zir,znU,znV]) (l:=zu) (fl:=zm) (wk:=zn) (lim:=900) (n:=60) (by decide +kernel)
def zyH:Kn Tryz.prog:=⟨35,[jN,.agg [vi 2,vb false,vb false,vb false,vs ⟨#[]⟩,vi 0],vi (-1),vi 2],zjR,zAA⟩
theorem zAB:ze Tryz.prog 72 [vi 1,Zv] (vb true):=zh (x:=xtK []) (l:=zu) (fl:=zm) (wk:=zn) (lim:=900) (n:=60) (by decide +kernel)
def zvj:Kn Tryz.prog:=⟨72,[vi 1,Zv],vb true,zAB⟩
theorem zAC:ze Tryz.prog 72 [vi 1,Zw] (vb true):=zh (x:=xtK []) (l:=zu) (fl:=zm) (wk:=zn) (lim:=900) (n:=60) (by decide +kernel)
def zvk:Kn Tryz.prog:=⟨72,[vi 1,Zw],vb true,zAC⟩
def zz4:V:=.tup [.agg [vs ⟨#[109,97,114,103,105,110,45,116,111,112]⟩,.slc 3 [[vi 10,vs ⟨#[112,120]⟩,vi 2000]],vb false],.agg [vi 0,vi 0,vi 0,vi 1,vi 1],vb true]
theorem zAD:ze Tryz.prog 35 [jN,.agg [vi 2,vb false,vb false,vb false,vs ⟨#[]⟩,vi 0],vi (-1),vi 1] (zz4):=zh (x:=xtK [kw0,kw1,kw2,kw4,kw5,kw7,kw8,j5,j6,Zs,Zt,ZV,ZW,Yn,Yo,YF,YG,Ql,Qm,QI,QJ,Kd,Ke,K4,K5,JU,JV,XN,XO,zah,zai,zaj,zak,zbM,zbN,zdF,zdG,zgk,zgl,zaX,zaY,zdC,zdD,ziq,zir,znU,znV,zvj,zvk]) (l:=zu) (fl:=zm) (wk:=zn) (lim:=900) (n:=60) (by decide +kernel)
def zyI:Kn Tryz.prog:=⟨35,[jN,.agg [vi 2,vb false,vb false,vb false,vs ⟨#[]⟩,vi 0],vi (-1),vi 1],zz4,zAD⟩
theorem zAE:ze Tryz.prog 72 [vi 0,Zv] (vb false):=zh (x:=xtK []) (l:=zu) (fl:=zm) (wk:=zn) (lim:=900) (n:=60) (by decide +kernel)
def zyJ:Kn Tryz.prog:=⟨72,[vi 0,Zv],vb false,zAE⟩
theorem zAF:ze Tryz.prog 72 [vi 0,Zw] (vb false):=zh (x:=xtK []) (l:=zu) (fl:=zm) (wk:=zn) (lim:=900) (n:=60) (by decide +kernel)
def zyK:Kn Tryz.prog:=⟨72,[vi 0,Zw],vb false,zAF⟩
theorem zAG:ze Tryz.prog 35 [jN,.agg [vi 2,vb false,vb false,vb false,vs ⟨#[]⟩,vi 0],vi (-1),vi 0] (lw4):=zh (x:=xtK [kw0,kw1,kw2,kw4,kw5,kw7,kw8,j5,j6,Zs,Zt,ZV,ZW,Yn,Yo,YF,YG,Ql,Qm,QI,QJ,Kd,Ke,K4,K5,JU,JV,XN,XO,zah,zai,zaj,zak,zbM,zbN,zdF,zdG,zgk,zgl,zaX,zaY,zdC,zdD,ziq,zir,znU,znV,zvj,zvk,zyJ,zyK]) (l:=zu) (fl:=zm) (wk:=zn) (lim:=900) (n:=60) (by decide +kernel)
def zyL:Kn Tryz.prog:=⟨35,[jN,.agg [vi 2,vb false,vb false,vb false,vs ⟨#[]⟩,vi 0],vi (-1),vi 0],lw4,zAG⟩
def zz5:V:=.tup [.agg [vi 793700,vi 1122519,vi 2000,vi 1000,vi 1000,vi 1000,zI,zI,zI,vs ⟨#[98,108,97,99,107]⟩,vi 16000],vi 0]
theorem zAH:ze Tryz.prog 12 [jN,.agg [vi 2,vb false,vb false,vb false,vs ⟨#[]⟩,vi 0]] (zz5):=zh (x:=xtK [kw3,kw6,kw9,zxu,zxv,zxw,zxx,zxy,zxz,zxA,zxB,zxC,zxD,zxE,zBF,zBG,zBH,zBI,zyE,zyF,zyG,zyH,zyI,zyL]) (l:=zu) (fl:=zm) (wk:=zn) (lim:=900) (n:=60) (by decide +kernel)
def zyM:Kn Tryz.prog:=⟨12,[jN,.agg [vi 2,vb false,vb false,vb false,vs ⟨#[]⟩,vi 0]],zz5,zAH⟩
def ztO:V:=.slc 3 [[vi 14,vs ⟨#[]⟩,vi 0],[vi 2,vs ⟨#[108,101,102,116]⟩,vi 0]]
theorem zAI:ze Tryz.prog 51 [ztO] (.tup [.slc 1 [[vi (-1)],[vi (-1)]],vi 0]):=zh (x:=xtK []) (l:=zu) (fl:=zm) (wk:=zn) (lim:=900) (n:=60) (by decide +kernel)
def zis:Kn Tryz.prog:=⟨51,[ztO],.tup [.slc 1 [[vi (-1)],[vi (-1)]],vi 0],zAI⟩
theorem zAJ:ze Tryz.prog 93 [ztO] (vb true):=zh (x:=xtK [zdE,zgj,zjJ,zn1,zis]) (l:=zu) (fl:=zm) (wk:=zn) (lim:=900) (n:=60) (by decide +kernel)
def znW:Kn Tryz.prog:=⟨93,[ztO],vb true,zAJ⟩
theorem zAK:ze Tryz.prog 51 [.slc 3 [[vi 10,vs ⟨#[112,120]⟩,vi 2000]]] (.tup [.slc 1 [[vi (-1)]],vi 0]):=zh (x:=xtK []) (l:=zu) (fl:=zm) (wk:=zn) (lim:=900) (n:=60) (by decide +kernel)
def znX:Kn Tryz.prog:=⟨51,[.slc 3 [[vi 10,vs ⟨#[112,120]⟩,vi 2000]]],.tup [.slc 1 [[vi (-1)]],vi 0],zAK⟩
theorem zAL:ze Tryz.prog 93 [.slc 3 [[vi 10,vs ⟨#[112,120]⟩,vi 2000]]] (vb true):=zh (x:=xtK [zdE,zgj,zjJ,zn1,zis,znX]) (l:=zu) (fl:=zm) (wk:=zn) (lim:=900) (n:=60) (by decide +kernel)
def znY:Kn Tryz.prog:=⟨93,[.slc 3 [[vi 10,vs ⟨#[112,120]⟩,vi 2000]]],vb true,zAL⟩
def zal:V:=.slc 3 [[vi 4,vs ⟨#[112,97,103,101]⟩,vi 0],[vi 12,vs ⟨#[123]⟩,vi 0],[vi 2,vs ⟨#[109,97,114,103,105,110]⟩,vi 0],[vi 14,vs ⟨#[]⟩,vi 0],[vi 10,vs ⟨#[112,120]⟩,vi 1000],[vi 13,vs ⟨#[125]⟩,vi 0],[vi 1,vs ⟨#[]⟩,vi 0],[vi 4,vs ⟨#[112,97,103,101]⟩,vi 0],[vi 1,vs ⟨#[]⟩,vi 0],[vi 14,vs ⟨#[]⟩,vi 0],[vi 2,vs ⟨#[108,101,102,116]⟩,vi 0],[vi 12,vs ⟨#[123]⟩,vi 0],[vi 2,vs ⟨#[109,97,114,103,105,110,45,116,111,112]⟩,vi 0],[vi 14,vs ⟨#[]⟩,vi 0],[vi 10,vs ⟨#[112,120]⟩,vi 2000],[vi 13,vs ⟨#[125]⟩,vi 0]]
def zz6:V:=.tup [.agg [vs ⟨#[109,97,114,103,105,110,45,116,111,112]⟩,.slc 3 [[vi 10,vs ⟨#[112,120]⟩,vi 2000]],vb false],vb true]
theorem zAM:ze Tryz.prog 116 [zal,vi 12,vi 15] (zz6):=zh (x:=xtK [zjH,zjI,zn0,znW,znY]) (l:=zu) (fl:=zm) (wk:=zn) (lim:=900) (n:=60) (by decide +kernel)
def zvl:Kn Tryz.prog:=⟨116,[zal,vi 12,vi 15],zz6,zAM⟩
def ztP:V:=.slc 1 [[vi (-1)],[vi 5],[vi (-1)],[vi (-1)],[vi (-1)],[vi (-1)],[vi (-1)],[vi (-1)],[vi (-1)],[vi (-1)],[vi (-1)],[vi 15],[vi (-1)],[vi (-1)],[vi (-1)],[vi (-1)]]
def zz7:V:=.tup [.slc 3 [[vs ⟨#[109,97,114,103,105,110,45,116,111,112]⟩,.slc 3 [[vi 10,vs ⟨#[112,120]⟩,vi 2000]],vb false]],zI]
theorem zAN:ze Tryz.prog 92 [zal,ztP,vi 12,vi 15,vb true] (zz7):=zh (x:=xtK [ztE,znZ,zxF,ztF,zvl]) (l:=zu) (fl:=zm) (wk:=zn) (lim:=900) (n:=60) (by decide +kernel)
def zvm:Kn Tryz.prog:=⟨92,[zal,ztP,vi 12,vi 15,vb true],zz7,zAN⟩
end Go.Proofs.YtlaopdfpncckeaaGreatDoor
