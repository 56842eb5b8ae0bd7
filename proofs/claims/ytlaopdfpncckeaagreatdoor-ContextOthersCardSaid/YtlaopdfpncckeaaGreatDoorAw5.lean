/- Part of the proof of ContextOthers. No condition. -/
import Derived.Test.YtlaopdfpncckeaaGreatDoorAw4
namespace Go.Proofs.YtlaopdfpncckeaaGreatDoor
open Go.Sx
set_option maxRecDepth 100000
theorem zzu:ze Tryz.prog 72 [vi 5,Zb] (vb false):=zg (x:=xtK []) (l:=zr) (fl:=zm) (wk:=zn) (lim:=900) (n:=60) (by decide +kernel)
def zaD:Kn Tryz.prog:=⟨72,[vi 5,Zb],vb false,zzu⟩
theorem zzv:ze Tryz.prog 72 [vi 5,Zc] (vb false):=zg (x:=xtK []) (l:=zr) (fl:=zm) (wk:=zn) (lim:=900) (n:=60) (by decide +kernel)
def zaE:Kn Tryz.prog:=⟨72,[vi 5,Zc],vb false,zzv⟩
theorem zzw:ze Tryz.prog 35 [jA,.agg [vi 2,vb false,vb false,vb false,vs ⟨#[]⟩,vi 0],vi (-1),vi 5] (lw4):=zg (x:=xtK [kw0,kw1,kw2,kw4,kw5,kw7,kw8,jO,jP,j5,j6,ZD,ZE,Z0,Z1,Yi,Yj,Y0,Y1,Qp,Qq,QX,QY,KQ,KR,JK,JL,Xz,XA,WU,WV,WW,WX,zbp,zbq,zc4,zc5,zfM,zfN,zaD,zaE]) (l:=zr) (fl:=zm) (wk:=zn) (lim:=900) (n:=60) (by decide +kernel)
def zxI:Kn Tryz.prog:=⟨35,[jA,.agg [vi 2,vb false,vb false,vb false,vs ⟨#[]⟩,vi 0],vi (-1),vi 5],lw4,zzw⟩
theorem zzx:ze Tryz.prog 72 [vi 4,Zb] (vb false):=zg (x:=xtK []) (l:=zr) (fl:=zm) (wk:=zn) (lim:=900) (n:=60) (by decide +kernel)
def zc1:Kn Tryz.prog:=⟨72,[vi 4,Zb],vb false,zzx⟩
theorem zzy:ze Tryz.prog 72 [vi 4,Zc] (vb true):=zg (x:=xtK []) (l:=zr) (fl:=zm) (wk:=zn) (lim:=900) (n:=60) (by decide +kernel)
def zc2:Kn Tryz.prog:=⟨72,[vi 4,Zc],vb true,zzy⟩
def zi6:V:=.tup [.agg [vs ⟨#[109,97,114,103,105,110]⟩,.slc 3 [[vi 10,vs ⟨#[112,120]⟩,vi 1000]],vb false],.agg [vi 0,vi 0,vi 0,vi 0,vi 0],vb true]
theorem zzz:ze Tryz.prog 35 [jA,.agg [vi 2,vb false,vb false,vb false,vs ⟨#[]⟩,vi 0],vi (-1),vi 4] (zi6):=zg (x:=xtK [kw0,kw1,kw2,kw4,kw5,kw7,kw8,jO,jP,j5,j6,ZD,ZE,Z0,Z1,Yi,Yj,Y0,Y1,Qp,Qq,QX,QY,KQ,KR,JK,JL,Xz,XA,WU,WV,WW,WX,zbp,zbq,zc4,zc5,zfM,zfN,zaD,zaE,zc1,zc2]) (l:=zr) (fl:=zm) (wk:=zn) (lim:=900) (n:=60) (by decide +kernel)
def zxJ:Kn Tryz.prog:=⟨35,[jA,.agg [vi 2,vb false,vb false,vb false,vs ⟨#[]⟩,vi 0],vi (-1),vi 4],zi6,zzz⟩
theorem zzA:ze Tryz.prog 72 [vi 3,Zb] (vb false):=zg (x:=xtK []) (l:=zr) (fl:=zm) (wk:=zn) (lim:=900) (n:=60) (by decide +kernel)
def zhP:Kn Tryz.prog:=⟨72,[vi 3,Zb],vb false,zzA⟩
theorem zzB:ze Tryz.prog 72 [vi 3,Zc] (vb true):=zg (x:=xtK []) (l:=zr) (fl:=zm) (wk:=zn) (lim:=900) (n:=60) (by decide +kernel)
def zhQ:Kn Tryz.prog:=⟨72,[vi 3,Zc],vb true,zzB⟩
theorem zzC:ze Tryz.prog 35 [jA,.agg [vi 2,vb false,vb false,vb false,vs ⟨#[]⟩,vi 0],vi (-1),vi 3] (zi6):=zg (x:=xtK [kw0,kw1,kw2,kw4,kw5,kw7,kw8,jO,jP,j5,j6,ZD,ZE,Z0,Z1,Yi,Yj,Y0,Y1,Qp,Qq,QX,QY,KQ,KR,JK,JL,Xz,XA,WU,WV,WW,WX,zbp,zbq,zc4,zc5,zfM,zfN,zaD,zaE,zc1,zc2,zhP,zhQ]) (l:=zr) (fl:=zm) (wk:=zn) (lim:=900) (n:=60) (by decide +kernel)
def zxK:Kn Tryz.prog:=⟨35,[jA,.agg [vi 2,vb false,vb false,vb false,vs ⟨#[]⟩,vi 0],vi (-1),vi 3],zi6,zzC⟩
theorem zzD:ze Tryz.prog 72 [vi 2,Zb] (vb false):=zg (x:=xtK []) (l:=zr) (fl:=zm) (wk:=zn) (lim:=900) (n:=60) (by decide +kernel)
def zmH:Kn Tryz.prog:=⟨72,[vi 2,Zb],vb false,zzD⟩
theorem zzE:ze Tryz.prog 72 [vi 2,Zc] (vb true):=zg (x:=xtK []) (l:=zr) (fl:=zm) (wk:=zn) (lim:=900) (n:=60) (by decide +kernel)
def zmI:Kn Tryz.prog:=⟨72,[vi 2,Zc],vb true,zzE⟩
theorem zzF:ze Tryz.prog 35 [jA,.agg [vi 2,vb false,vb false,vb false,vs ⟨#[]⟩,vi 0],vi (-1),vi 2] (zi6):=zg (x:=xtK [kw0,kw1,kw2,kw4,kw5,kw7,kw8,jO,jP,j5,j6,ZD,ZE,Z0,Z1,Yi,Yj,Y0,Y1,Qp,Qq,QX,QY,KQ,KR,JK,JL,Xz,XA,WU,WV,WW,WX,zbp,zbq,zc4,zc5,zfM,zfN,zaD,zaE,zc1,zc2,zhP,zhQ,zmH,zmI]) (l:=zr) (fl:=zm) (wk:=zn) (lim:=900) (n:=60) (by decide +kernel)
def zxL:Kn Tryz.prog:=⟨35,[jA,.agg [vi 2,vb false,vb false,vb false,vs ⟨#[]⟩,vi 0],vi (-1),vi 2],zi6,zzF⟩
theorem zzG:ze Tryz.prog 72 [vi 1,Zb] (vb true):=zg (x:=xtK []) (l:=zr) (fl:=zm) (wk:=zn) (lim:=900) (n:=60) (by decide +kernel)
def zuv:Kn Tryz.prog:=⟨72,[vi 1,Zb],vb true,zzG⟩
theorem zzH:ze Tryz.prog 72 [vi 1,Zc] (vb true):=zg (x:=xtK []) (l:=zr) (fl:=zm) (wk:=zn) (lim:=900) (n:=60) (by decide +kernel)
def zuw:Kn Tryz.prog:=⟨72,[vi 1,Zc],vb true,zzH⟩
def zy8:V:=.tup [.agg [vs ⟨#[109,97,114,103,105,110,45,116,111,112]⟩,.slc 3 [[vi 10,vs ⟨#[112,120]⟩,vi 2000]],vb false],.agg [vi 0,vi 0,vi 0,vi 1,vi 1],vb true]
theorem zzI:ze Tryz.prog 35 [jA,.agg [vi 2,vb false,vb false,vb false,vs ⟨#[]⟩,vi 0],vi (-1),vi 1] (zy8):=zg (x:=xtK [kw0,kw1,kw2,kw4,kw5,kw7,kw8,jO,jP,j5,j6,ZD,ZE,Z0,Z1,Yi,Yj,Y0,Y1,Qp,Qq,QX,QY,KQ,KR,JK,JL,Xz,XA,WU,WV,WW,WX,zbp,zbq,zc4,zc5,zfM,zfN,zaD,zaE,zc1,zc2,zhP,zhQ,zmH,zmI,zuv,zuw]) (l:=zr) (fl:=zm) (wk:=zn) (lim:=900) (n:=60) (by decide +kernel)
def zxM:Kn Tryz.prog:=⟨35,[jA,.agg [vi 2,vb false,vb false,vb false,vs ⟨#[]⟩,vi 0],vi (-1),vi 1],zy8,zzI⟩
theorem zzJ:ze Tryz.prog 72 [vi 0,Zb] (vb false):=zg (x:=xtK []) (l:=zr) (fl:=zm) (wk:=zn) (lim:=900) (n:=60) (by decide +kernel)
def zxN:Kn Tryz.prog:=⟨72,[vi 0,Zb],vb false,zzJ⟩
theorem zzK:ze Tryz.prog 72 [vi 0,Zc] (vb false):=zg (x:=xtK []) (l:=zr) (fl:=zm) (wk:=zn) (lim:=900) (n:=60) (by decide +kernel)
def zxO:Kn Tryz.prog:=⟨72,[vi 0,Zc],vb false,zzK⟩
theorem zzL:ze Tryz.prog 35 [jA,.agg [vi 2,vb false,vb false,vb false,vs ⟨#[]⟩,vi 0],vi (-1),vi 0] (lw4):=zg (x:=xtK [kw0,kw1,kw2,kw4,kw5,kw7,kw8,jO,jP,j5,j6,ZD,ZE,Z0,Z1,Yi,Yj,Y0,Y1,Qp,Qq,QX,QY,KQ,KR,JK,JL,Xz,XA,WU,WV,WW,WX,zbp,zbq,zc4,zc5,zfM,zfN,zaD,zaE,zc1,zc2,zhP,zhQ,zmH,zmI,zuv,zuw,zxN,zxO]) (l:=zr) (fl:=zm) (wk:=zn) (lim:=900) (n:=60) (by decide +kernel)
def zxP:Kn Tryz.prog:=⟨35,[jA,.agg [vi 2,vb false,vb false,vb false,vs ⟨#[]⟩,vi 0],vi (-1),vi 0],lw4,zzL⟩
def zy9:V:=.tup [.agg [vi 793700,vi 1122519,vi 2000,vi 1000,vi 1000,vi 1000,zB,zB,zB,vs ⟨#[98,108,97,99,107]⟩,vi 16000],vi 0]
theorem zzM:ze Tryz.prog 12 [jA,.agg [vi 2,vb false,vb false,vb false,vs ⟨#[]⟩,vi 0]] (zy9):=zg (x:=xtK [kw3,kw6,kw9,zwx,zwy,zwz,zwA,zwB,zwC,zwD,zwE,zwF,zwG,zwH,zAI,zAJ,zAK,zAL,zxI,zxJ,zxK,zxL,zxM,zxP]) (l:=zr) (fl:=zm) (wk:=zn) (lim:=900) (n:=60) (by decide +kernel)
def zxQ:Kn Tryz.prog:=⟨12,[jA,.agg [vi 2,vb false,vb false,vb false,vs ⟨#[]⟩,vi 0]],zy9,zzM⟩
def zsM:V:=.slc 3 [[vi 14,vs ⟨#[]⟩,vi 0],[vi 2,vs ⟨#[108,101,102,116]⟩,vi 0]]
theorem zzN:ze Tryz.prog 51 [zsM] (.tup [.slc 1 [[vi (-1)],[vi (-1)]],vi 0]):=zg (x:=xtK []) (l:=zr) (fl:=zm) (wk:=zn) (lim:=900) (n:=60) (by decide +kernel)
def zhR:Kn Tryz.prog:=⟨51,[zsM],.tup [.slc 1 [[vi (-1)],[vi (-1)]],vi 0],zzN⟩
theorem zzO:ze Tryz.prog 93 [zsM] (vb true):=zg (x:=xtK [zc3,zfL,ziY,zmO,zhR]) (l:=zr) (fl:=zm) (wk:=zn) (lim:=900) (n:=60) (by decide +kernel)
def zmJ:Kn Tryz.prog:=⟨93,[zsM],vb true,zzO⟩
theorem zzP:ze Tryz.prog 51 [.slc 3 [[vi 10,vs ⟨#[112,120]⟩,vi 2000]]] (.tup [.slc 1 [[vi (-1)]],vi 0]):=zg (x:=xtK []) (l:=zr) (fl:=zm) (wk:=zn) (lim:=900) (n:=60) (by decide +kernel)
def zmK:Kn Tryz.prog:=⟨51,[.slc 3 [[vi 10,vs ⟨#[112,120]⟩,vi 2000]]],.tup [.slc 1 [[vi (-1)]],vi 0],zzP⟩
theorem zzQ:ze Tryz.prog 93 [.slc 3 [[vi 10,vs ⟨#[112,120]⟩,vi 2000]]] (vb true):=zg (x:=xtK [zc3,zfL,ziY,zmO,zhR,zmK]) (l:=zr) (fl:=zm) (wk:=zn) (lim:=900) (n:=60) (by decide +kernel)
def zmL:Kn Tryz.prog:=⟨93,[.slc 3 [[vi 10,vs ⟨#[112,120]⟩,vi 2000]]],vb true,zzQ⟩
def W0:V:=.slc 3 [[vi 4,vs ⟨#[112,97,103,101]⟩,vi 0],[vi 12,vs ⟨#[123]⟩,vi 0],[vi 2,vs ⟨#[109,97,114,103,105,110]⟩,vi 0],[vi 14,vs ⟨#[]⟩,vi 0],[vi 10,vs ⟨#[112,120]⟩,vi 1000],[vi 13,vs ⟨#[125]⟩,vi 0],[vi 1,vs ⟨#[]⟩,vi 0],[vi 4,vs ⟨#[112,97,103,101]⟩,vi 0],[vi 1,vs ⟨#[]⟩,vi 0],[vi 14,vs ⟨#[]⟩,vi 0],[vi 2,vs ⟨#[108,101,102,116]⟩,vi 0],[vi 12,vs ⟨#[123]⟩,vi 0],[vi 2,vs ⟨#[109,97,114,103,105,110,45,116,111,112]⟩,vi 0],[vi 14,vs ⟨#[]⟩,vi 0],[vi 10,vs ⟨#[112,120]⟩,vi 2000],[vi 13,vs ⟨#[125]⟩,vi 0]]
def zza:V:=.tup [.agg [vs ⟨#[109,97,114,103,105,110,45,116,111,112]⟩,.slc 3 [[vi 10,vs ⟨#[112,120]⟩,vi 2000]],vb false],vb true]
theorem zzR:ze Tryz.prog 116 [W0,vi 12,vi 15] (zza):=zg (x:=xtK [ziW,ziX,zmN,zmJ,zmL]) (l:=zr) (fl:=zm) (wk:=zn) (lim:=900) (n:=60) (by decide +kernel)
def zux:Kn Tryz.prog:=⟨116,[W0,vi 12,vi 15],zza,zzR⟩
def zsN:V:=.slc 1 [[vi (-1)],[vi 5],[vi (-1)],[vi (-1)],[vi (-1)],[vi (-1)],[vi (-1)],[vi (-1)],[vi (-1)],[vi (-1)],[vi (-1)],[vi 15],[vi (-1)],[vi (-1)],[vi (-1)],[vi (-1)]]
def zzb:V:=.tup [.slc 3 [[vs ⟨#[109,97,114,103,105,110,45,116,111,112]⟩,.slc 3 [[vi 10,vs ⟨#[112,120]⟩,vi 2000]],vb false]],zB]
theorem zzS:ze Tryz.prog 92 [W0,zsN,vi 12,vi 15,vb true] (zzb):=zg (x:=xtK [zsG,zmM,zwI,zsH,zux]) (l:=zr) (fl:=zm) (wk:=zn) (lim:=900) (n:=60) (by decide +kernel)
def zuy:Kn Tryz.prog:=⟨92,[W0,zsN,vi 12,vi 15,vb true],zzb,zzS⟩
end Go.Proofs.YtlaopdfpncckeaaGreatDoor
