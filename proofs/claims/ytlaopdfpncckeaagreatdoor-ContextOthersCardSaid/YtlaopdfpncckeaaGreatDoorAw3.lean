/- Part of the proof of ContextOthers. No condition. -/
import Derived.Test.YtlaopdfpncckeaaGreatDoorAw2
namespace Go.Proofs.YtlaopdfpncckeaaGreatDoor
open Go.Sx
set_option maxRecDepth 100000
def zsL:V:=.slc 1 [[vi (-1)],[vi 12],[vi (-1)],[vi (-1)],[vi (-1)],[vi (-1)],[vi (-1)],[vi 11],[vi (-1)],[vi (-1)],[vi (-1)],[vi (-1)],[vi (-1)]]
def zyV:V:=.tup [.slc 3 [[vs ⟨#[99,111,110,116,101,110,116]⟩,.slc 3 [[vi 6,vs ⟨#[120]⟩,vi 0]],vb false]],zB]
theorem zBt:ze Tryz.prog 92 [lw9,zsL,vi 8,vi 11,vb false] (zyV):=zg (x:=xtK [zsG]) (l:=zr) (fl:=zm) (wk:=zn) (lim:=900) (n:=60) (by decide +kernel)
def zmM:Kn Tryz.prog:=⟨92,[lw9,zsL,vi 8,vi 11,vb false],zyV,zBt⟩
theorem zBu:ze Tryz.prog 51 [.slc 3 [[vi 2,vs ⟨#[114,101,100]⟩,vi 0]]] (.tup [.slc 1 [[vi (-1)]],vi 0]):=zg (x:=xtK []) (l:=zr) (fl:=zm) (wk:=zn) (lim:=900) (n:=60) (by decide +kernel)
def ziY:Kn Tryz.prog:=⟨51,[.slc 3 [[vi 2,vs ⟨#[114,101,100]⟩,vi 0]]],.tup [.slc 1 [[vi (-1)]],vi 0],zBu⟩
theorem zBv:ze Tryz.prog 93 [.slc 3 [[vi 2,vs ⟨#[114,101,100]⟩,vi 0]]] (vb true):=zg (x:=xtK [zc3,zfL,ziY]) (l:=zr) (fl:=zm) (wk:=zn) (lim:=900) (n:=60) (by decide +kernel)
def zmN:Kn Tryz.prog:=⟨93,[.slc 3 [[vi 2,vs ⟨#[114,101,100]⟩,vi 0]]],vb true,zBv⟩
def zyW:V:=.tup [.agg [vs ⟨#[99,111,108,111,114]⟩,.slc 3 [[vi 2,vs ⟨#[114,101,100]⟩,vi 0]],vb false],vb true]
theorem zBw:ze Tryz.prog 116 [lw9,vi 2,vi 5] (zyW):=zg (x:=xtK [ziW,ziX,zmN]) (l:=zr) (fl:=zm) (wk:=zn) (lim:=900) (n:=60) (by decide +kernel)
def zwI:Kn Tryz.prog:=⟨116,[lw9,vi 2,vi 5],zyW,zBw⟩
def zyX:V:=.tup [.slc 3 [[vs ⟨#[99,111,108,111,114]⟩,.slc 3 [[vi 2,vs ⟨#[114,101,100]⟩,vi 0]],vb false]],.slc 2 [[vs ⟨#[116,111,112,45,108,101,102,116]⟩,.slc 3 [[vs ⟨#[99,111,110,116,101,110,116]⟩,.slc 3 [[vi 6,vs ⟨#[120]⟩,vi 0]],vb false]]]]]
theorem zBy:ze Tryz.prog 92 [lw9,zsL,vi 2,vi 12,vb true] (zyX):=zg (x:=xtK [zsG,zmM,zwI]) (l:=zr) (fl:=zm) (wk:=zn) (lim:=900) (n:=60) (by decide +kernel)
def zsH:Kn Tryz.prog:=⟨92,[lw9,zsL,vi 2,vi 12,vb true],zyX,zBy⟩
def zyY:V:=.tup [.slc 1 [[vi (-1)],[vi 12],[vi (-1)],[vi (-1)],[vi (-1)],[vi (-1)],[vi (-1)],[vi 11],[vi (-1)],[vi (-1)],[vi (-1)],[vi (-1)],[vi (-1)]],vi 0]
theorem zBz:ze Tryz.prog 51 [lw9] (zyY):=zg (x:=xtK []) (l:=zr) (fl:=zm) (wk:=zn) (lim:=900) (n:=60) (by decide +kernel)
def zmO:Kn Tryz.prog:=⟨51,[lw9],zyY,zBz⟩
def yg:V:=.slc 1 [[vi 64],[vi 112],[vi 97],[vi 103],[vi 101],[vi 123],[vi 99],[vi 111],[vi 108],[vi 111],[vi 114],[vi 58],[vi 114],[vi 101],[vi 100],[vi 59],[vi 64],[vi 116],[vi 111],[vi 112],[vi 45],[vi 108],[vi 101],[vi 102],[vi 116],[vi 123],[vi 99],[vi 111],[vi 110],[vi 116],[vi 101],[vi 110],[vi 116],[vi 58],[vi 39],[vi 120],[vi 39],[vi 125],[vi 125]]
theorem zBA:ze Tryz.prog 114 [yg,vi 38] (.tup [.agg [vi 13,vs ⟨#[125]⟩,vi 0],vi 39]):=zg (x:=xtK []) (l:=zr) (fl:=zm) (wk:=zn) (lim:=900) (n:=60) (by decide +kernel)
def zyr:Kn Tryz.prog:=⟨114,[yg,vi 38],.tup [.agg [vi 13,vs ⟨#[125]⟩,vi 0],vi 39],zBA⟩
theorem zBB:ze Tryz.prog 113 [yg,vi 38] (.tup [vi 38,vb false]):=zg (x:=xtK []) (l:=zr) (fl:=zm) (wk:=zn) (lim:=900) (n:=60) (by decide +kernel)
def zys:Kn Tryz.prog:=⟨113,[yg,vi 38],.tup [vi 38,vb false],zBB⟩
theorem zBC:ze Tryz.prog 114 [yg,vi 37] (.tup [.agg [vi 13,vs ⟨#[125]⟩,vi 0],vi 38]):=zg (x:=xtK []) (l:=zr) (fl:=zm) (wk:=zn) (lim:=900) (n:=60) (by decide +kernel)
def zyt:Kn Tryz.prog:=⟨114,[yg,vi 37],.tup [.agg [vi 13,vs ⟨#[125]⟩,vi 0],vi 38],zBC⟩
theorem zBD:ze Tryz.prog 113 [yg,vi 37] (.tup [vi 37,vb false]):=zg (x:=xtK []) (l:=zr) (fl:=zm) (wk:=zn) (lim:=900) (n:=60) (by decide +kernel)
def zyu:Kn Tryz.prog:=⟨113,[yg,vi 37],.tup [vi 37,vb false],zBD⟩
theorem zBE:ze Tryz.prog 114 [yg,vi 34] (.tup [.agg [vi 6,vs ⟨#[120]⟩,vi 0],vi 37]):=zg (x:=xtK []) (l:=zr) (fl:=zm) (wk:=zn) (lim:=900) (n:=60) (by decide +kernel)
def zyv:Kn Tryz.prog:=⟨114,[yg,vi 34],.tup [.agg [vi 6,vs ⟨#[120]⟩,vi 0],vi 37],zBE⟩
theorem zBF:ze Tryz.prog 113 [yg,vi 34] (.tup [vi 34,vb false]):=zg (x:=xtK []) (l:=zr) (fl:=zm) (wk:=zn) (lim:=900) (n:=60) (by decide +kernel)
def zyw:Kn Tryz.prog:=⟨113,[yg,vi 34],.tup [vi 34,vb false],zBF⟩
theorem zBG:ze Tryz.prog 114 [yg,vi 33] (.tup [.agg [vi 14,vs ⟨#[]⟩,vi 0],vi 34]):=zg (x:=xtK []) (l:=zr) (fl:=zm) (wk:=zn) (lim:=900) (n:=60) (by decide +kernel)
def zyx:Kn Tryz.prog:=⟨114,[yg,vi 33],.tup [.agg [vi 14,vs ⟨#[]⟩,vi 0],vi 34],zBG⟩
theorem zBH:ze Tryz.prog 113 [yg,vi 33] (.tup [vi 33,vb false]):=zg (x:=xtK []) (l:=zr) (fl:=zm) (wk:=zn) (lim:=900) (n:=60) (by decide +kernel)
def zyy:Kn Tryz.prog:=⟨113,[yg,vi 33],.tup [vi 33,vb false],zBH⟩
def zyZ:V:=.tup [.agg [vi 2,vs ⟨#[99,111,110,116,101,110,116]⟩,vi 0],vi 33]
theorem zBI:ze Tryz.prog 114 [yg,vi 26] (zyZ):=zg (x:=xtK []) (l:=zr) (fl:=zm) (wk:=zn) (lim:=900) (n:=60) (by decide +kernel)
def zyz:Kn Tryz.prog:=⟨114,[yg,vi 26],zyZ,zBI⟩
theorem zBJ:ze Tryz.prog 113 [yg,vi 26] (.tup [vi 26,vb false]):=zg (x:=xtK []) (l:=zr) (fl:=zm) (wk:=zn) (lim:=900) (n:=60) (by decide +kernel)
def zyA:Kn Tryz.prog:=⟨113,[yg,vi 26],.tup [vi 26,vb false],zBJ⟩
theorem zBK:ze Tryz.prog 114 [yg,vi 25] (.tup [.agg [vi 12,vs ⟨#[123]⟩,vi 0],vi 26]):=zg (x:=xtK []) (l:=zr) (fl:=zm) (wk:=zn) (lim:=900) (n:=60) (by decide +kernel)
def zyB:Kn Tryz.prog:=⟨114,[yg,vi 25],.tup [.agg [vi 12,vs ⟨#[123]⟩,vi 0],vi 26],zBK⟩
theorem zBL:ze Tryz.prog 113 [yg,vi 25] (.tup [vi 25,vb false]):=zg (x:=xtK []) (l:=zr) (fl:=zm) (wk:=zn) (lim:=900) (n:=60) (by decide +kernel)
def zyC:Kn Tryz.prog:=⟨113,[yg,vi 25],.tup [vi 25,vb false],zBL⟩
def zy0:V:=.tup [.agg [vi 4,vs ⟨#[116,111,112,45,108,101,102,116]⟩,vi 0],vi 25]
theorem zBM:ze Tryz.prog 114 [yg,vi 16] (zy0):=zg (x:=xtK []) (l:=zr) (fl:=zm) (wk:=zn) (lim:=900) (n:=60) (by decide +kernel)
def zyD:Kn Tryz.prog:=⟨114,[yg,vi 16],zy0,zBM⟩
theorem zBN:ze Tryz.prog 113 [yg,vi 16] (.tup [vi 16,vb false]):=zg (x:=xtK []) (l:=zr) (fl:=zm) (wk:=zn) (lim:=900) (n:=60) (by decide +kernel)
def zyE:Kn Tryz.prog:=⟨113,[yg,vi 16],.tup [vi 16,vb false],zBN⟩
theorem zBO:ze Tryz.prog 114 [yg,vi 15] (.tup [.agg [vi 15,vs ⟨#[]⟩,vi 0],vi 16]):=zg (x:=xtK []) (l:=zr) (fl:=zm) (wk:=zn) (lim:=900) (n:=60) (by decide +kernel)
def zyF:Kn Tryz.prog:=⟨114,[yg,vi 15],.tup [.agg [vi 15,vs ⟨#[]⟩,vi 0],vi 16],zBO⟩
theorem zBP:ze Tryz.prog 113 [yg,vi 15] (.tup [vi 15,vb false]):=zg (x:=xtK []) (l:=zr) (fl:=zm) (wk:=zn) (lim:=900) (n:=60) (by decide +kernel)
def zyG:Kn Tryz.prog:=⟨113,[yg,vi 15],.tup [vi 15,vb false],zBP⟩
theorem zBQ:ze Tryz.prog 114 [yg,vi 12] (.tup [.agg [vi 2,vs ⟨#[114,101,100]⟩,vi 0],vi 15]):=zg (x:=xtK []) (l:=zr) (fl:=zm) (wk:=zn) (lim:=900) (n:=60) (by decide +kernel)
def zyH:Kn Tryz.prog:=⟨114,[yg,vi 12],.tup [.agg [vi 2,vs ⟨#[114,101,100]⟩,vi 0],vi 15],zBQ⟩
theorem zBR:ze Tryz.prog 113 [yg,vi 12] (.tup [vi 12,vb false]):=zg (x:=xtK []) (l:=zr) (fl:=zm) (wk:=zn) (lim:=900) (n:=60) (by decide +kernel)
def zyI:Kn Tryz.prog:=⟨113,[yg,vi 12],.tup [vi 12,vb false],zBR⟩
theorem zBS:ze Tryz.prog 114 [yg,vi 11] (.tup [.agg [vi 14,vs ⟨#[]⟩,vi 0],vi 12]):=zg (x:=xtK []) (l:=zr) (fl:=zm) (wk:=zn) (lim:=900) (n:=60) (by decide +kernel)
def zyJ:Kn Tryz.prog:=⟨114,[yg,vi 11],.tup [.agg [vi 14,vs ⟨#[]⟩,vi 0],vi 12],zBS⟩
end Go.Proofs.YtlaopdfpncckeaaGreatDoor
