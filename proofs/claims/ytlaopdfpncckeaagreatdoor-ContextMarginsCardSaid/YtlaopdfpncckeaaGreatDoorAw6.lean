/- Part of the proof of ContextMargins. No condition. -/
import Derived.Test.YtlaopdfpncckeaaGreatDoorAw5
namespace Go.Proofs.YtlaopdfpncckeaaGreatDoor
open Go.Sx
set_option maxRecDepth 100000
theorem zuh:ze Tryz.prog 51 [.slc 3 [[vi 10,vs ⟨#[112,120]⟩,vi 1000]]] (.tup [.slc 1 [[vi (-1)]],vi 0]):=zf (x:=xtK []) (l:=zo) (fl:=zk) (wk:=zl) (lim:=900) (n:=60) (by decide +kernel)
def zpy:Kn Tryz.prog:=⟨51,[.slc 3 [[vi 10,vs ⟨#[112,120]⟩,vi 1000]]],.tup [.slc 1 [[vi (-1)]],vi 0],zuh⟩
theorem zui:ze Tryz.prog 93 [.slc 3 [[vi 10,vs ⟨#[112,120]⟩,vi 1000]]] (vb true):=zf (x:=xtK [zaO,zc2,zfO,ziY,zeC,ziU,zpy]) (l:=zo) (fl:=zk) (wk:=zl) (lim:=900) (n:=60) (by decide +kernel)
def zpz:Kn Tryz.prog:=⟨93,[.slc 3 [[vi 10,vs ⟨#[112,120]⟩,vi 1000]]],vb true,zui⟩
def ztE:V:=.tup [.agg [vs ⟨#[109,97,114,103,105,110]⟩,.slc 3 [[vi 10,vs ⟨#[112,120]⟩,vi 1000]],vb false],vb true]
theorem zuj:ze Tryz.prog 116 [J7,vi 2,vi 5] (ztE):=zf (x:=xtK [zfM,zfN,ziX,ziT,ziV,zpz]) (l:=zo) (fl:=zk) (wk:=zl) (lim:=900) (n:=60) (by decide +kernel)
def zsj:Kn Tryz.prog:=⟨116,[J7,vi 2,vi 5],ztE,zuj⟩
def ztF:V:=.tup [.slc 3 [[vs ⟨#[109,97,114,103,105,110]⟩,.slc 3 [[vi 10,vs ⟨#[112,120]⟩,vi 1000]],vb false]],zL]
theorem zuk:ze Tryz.prog 92 [J7,znZ,vi 2,vi 5,vb true] (ztF):=zf (x:=xtK [znT,ziW,zra,znU,zpw,zpx,zsj]) (l:=zo) (fl:=zk) (wk:=zl) (lim:=900) (n:=60) (by decide +kernel)
def zsk:Kn Tryz.prog:=⟨92,[J7,znZ,vi 2,vi 5,vb true],ztF,zuk⟩
def ztG:V:=.tup [.slc 1 [[vi (-1)],[vi 5],[vi (-1)],[vi (-1)],[vi (-1)],[vi (-1)],[vi (-1)],[vi (-1)],[vi (-1)],[vi (-1)],[vi (-1)],[vi 15],[vi (-1)],[vi (-1)],[vi (-1)],[vi (-1)]],vi 0]
theorem zul:ze Tryz.prog 51 [J7] (ztG):=zf (x:=xtK []) (l:=zo) (fl:=zk) (wk:=zl) (lim:=900) (n:=60) (by decide +kernel)
def zsl:Kn Tryz.prog:=⟨51,[J7],ztG,zul⟩
def yk:V:=.slc 1 [[vi 64],[vi 112],[vi 97],[vi 103],[vi 101],[vi 123],[vi 109],[vi 97],[vi 114],[vi 103],[vi 105],[vi 110],[vi 58],[vi 49],[vi 112],[vi 120],[vi 125],[vi 32],[vi 64],[vi 112],[vi 97],[vi 103],[vi 101],[vi 32],[vi 58],[vi 108],[vi 101],[vi 102],[vi 116],[vi 123],[vi 109],[vi 97],[vi 114],[vi 103],[vi 105],[vi 110],[vi 45],[vi 116],[vi 111],[vi 112],[vi 58],[vi 50],[vi 112],[vi 120],[vi 125]]
theorem zum:ze Tryz.prog 114 [yk,vi 44] (.tup [.agg [vi 13,vs ⟨#[125]⟩,vi 0],vi 45]):=zf (x:=xtK []) (l:=zo) (fl:=zk) (wk:=zl) (lim:=900) (n:=60) (by decide +kernel)
def zsm:Kn Tryz.prog:=⟨114,[yk,vi 44],.tup [.agg [vi 13,vs ⟨#[125]⟩,vi 0],vi 45],zum⟩
theorem zun:ze Tryz.prog 113 [yk,vi 44] (.tup [vi 44,vb false]):=zf (x:=xtK []) (l:=zo) (fl:=zk) (wk:=zl) (lim:=900) (n:=60) (by decide +kernel)
def zsn:Kn Tryz.prog:=⟨113,[yk,vi 44],.tup [vi 44,vb false],zun⟩
theorem zuo:ze Tryz.prog 114 [yk,vi 41] (.tup [.agg [vi 10,vs ⟨#[112,120]⟩,vi 2000],vi 44]):=zf (x:=xtK []) (l:=zo) (fl:=zk) (wk:=zl) (lim:=900) (n:=60) (by decide +kernel)
def zso:Kn Tryz.prog:=⟨114,[yk,vi 41],.tup [.agg [vi 10,vs ⟨#[112,120]⟩,vi 2000],vi 44],zuo⟩
theorem zup:ze Tryz.prog 113 [yk,vi 41] (.tup [vi 41,vb false]):=zf (x:=xtK []) (l:=zo) (fl:=zk) (wk:=zl) (lim:=900) (n:=60) (by decide +kernel)
def zsp:Kn Tryz.prog:=⟨113,[yk,vi 41],.tup [vi 41,vb false],zup⟩
theorem zuq:ze Tryz.prog 114 [yk,vi 40] (.tup [.agg [vi 14,vs ⟨#[]⟩,vi 0],vi 41]):=zf (x:=xtK []) (l:=zo) (fl:=zk) (wk:=zl) (lim:=900) (n:=60) (by decide +kernel)
def zsq:Kn Tryz.prog:=⟨114,[yk,vi 40],.tup [.agg [vi 14,vs ⟨#[]⟩,vi 0],vi 41],zuq⟩
theorem zur:ze Tryz.prog 113 [yk,vi 40] (.tup [vi 40,vb false]):=zf (x:=xtK []) (l:=zo) (fl:=zk) (wk:=zl) (lim:=900) (n:=60) (by decide +kernel)
def zsr:Kn Tryz.prog:=⟨113,[yk,vi 40],.tup [vi 40,vb false],zur⟩
def ztH:V:=.tup [.agg [vi 2,vs ⟨#[109,97,114,103,105,110,45,116,111,112]⟩,vi 0],vi 40]
theorem zus:ze Tryz.prog 114 [yk,vi 30] (ztH):=zf (x:=xtK []) (l:=zo) (fl:=zk) (wk:=zl) (lim:=900) (n:=60) (by decide +kernel)
def zss:Kn Tryz.prog:=⟨114,[yk,vi 30],ztH,zus⟩
theorem zut:ze Tryz.prog 113 [yk,vi 30] (.tup [vi 30,vb false]):=zf (x:=xtK []) (l:=zo) (fl:=zk) (wk:=zl) (lim:=900) (n:=60) (by decide +kernel)
def zst:Kn Tryz.prog:=⟨113,[yk,vi 30],.tup [vi 30,vb false],zut⟩
theorem zuu:ze Tryz.prog 114 [yk,vi 29] (.tup [.agg [vi 12,vs ⟨#[123]⟩,vi 0],vi 30]):=zf (x:=xtK []) (l:=zo) (fl:=zk) (wk:=zl) (lim:=900) (n:=60) (by decide +kernel)
def zsu:Kn Tryz.prog:=⟨114,[yk,vi 29],.tup [.agg [vi 12,vs ⟨#[123]⟩,vi 0],vi 30],zuu⟩
theorem zuv:ze Tryz.prog 113 [yk,vi 29] (.tup [vi 29,vb false]):=zf (x:=xtK []) (l:=zo) (fl:=zk) (wk:=zl) (lim:=900) (n:=60) (by decide +kernel)
def zsv:Kn Tryz.prog:=⟨113,[yk,vi 29],.tup [vi 29,vb false],zuv⟩
theorem zuw:ze Tryz.prog 114 [yk,vi 25] (.tup [.agg [vi 2,vs ⟨#[108,101,102,116]⟩,vi 0],vi 29]):=zf (x:=xtK []) (l:=zo) (fl:=zk) (wk:=zl) (lim:=900) (n:=60) (by decide +kernel)
def zsw:Kn Tryz.prog:=⟨114,[yk,vi 25],.tup [.agg [vi 2,vs ⟨#[108,101,102,116]⟩,vi 0],vi 29],zuw⟩
theorem zux:ze Tryz.prog 113 [yk,vi 25] (.tup [vi 25,vb false]):=zf (x:=xtK []) (l:=zo) (fl:=zk) (wk:=zl) (lim:=900) (n:=60) (by decide +kernel)
def zsx:Kn Tryz.prog:=⟨113,[yk,vi 25],.tup [vi 25,vb false],zux⟩
theorem zuy:ze Tryz.prog 114 [yk,vi 24] (.tup [.agg [vi 14,vs ⟨#[]⟩,vi 0],vi 25]):=zf (x:=xtK []) (l:=zo) (fl:=zk) (wk:=zl) (lim:=900) (n:=60) (by decide +kernel)
def zsy:Kn Tryz.prog:=⟨114,[yk,vi 24],.tup [.agg [vi 14,vs ⟨#[]⟩,vi 0],vi 25],zuy⟩
theorem zuz:ze Tryz.prog 113 [yk,vi 23] (.tup [vi 24,vb true]):=zf (x:=xtK []) (l:=zo) (fl:=zk) (wk:=zl) (lim:=900) (n:=60) (by decide +kernel)
def zsz:Kn Tryz.prog:=⟨113,[yk,vi 23],.tup [vi 24,vb true],zuz⟩
theorem zuA:ze Tryz.prog 114 [yk,vi 18] (.tup [.agg [vi 4,vs ⟨#[112,97,103,101]⟩,vi 0],vi 23]):=zf (x:=xtK []) (l:=zo) (fl:=zk) (wk:=zl) (lim:=900) (n:=60) (by decide +kernel)
def zsA:Kn Tryz.prog:=⟨114,[yk,vi 18],.tup [.agg [vi 4,vs ⟨#[112,97,103,101]⟩,vi 0],vi 23],zuA⟩
theorem zuB:ze Tryz.prog 113 [yk,vi 17] (.tup [vi 18,vb true]):=zf (x:=xtK []) (l:=zo) (fl:=zk) (wk:=zl) (lim:=900) (n:=60) (by decide +kernel)
def zsB:Kn Tryz.prog:=⟨113,[yk,vi 17],.tup [vi 18,vb true],zuB⟩
theorem zuC:ze Tryz.prog 114 [yk,vi 16] (.tup [.agg [vi 13,vs ⟨#[125]⟩,vi 0],vi 17]):=zf (x:=xtK []) (l:=zo) (fl:=zk) (wk:=zl) (lim:=900) (n:=60) (by decide +kernel)
def zsC:Kn Tryz.prog:=⟨114,[yk,vi 16],.tup [.agg [vi 13,vs ⟨#[125]⟩,vi 0],vi 17],zuC⟩
theorem zuD:ze Tryz.prog 113 [yk,vi 16] (.tup [vi 16,vb false]):=zf (x:=xtK []) (l:=zo) (fl:=zk) (wk:=zl) (lim:=900) (n:=60) (by decide +kernel)
def zsD:Kn Tryz.prog:=⟨113,[yk,vi 16],.tup [vi 16,vb false],zuD⟩
theorem zuE:ze Tryz.prog 114 [yk,vi 13] (.tup [.agg [vi 10,vs ⟨#[112,120]⟩,vi 1000],vi 16]):=zf (x:=xtK []) (l:=zo) (fl:=zk) (wk:=zl) (lim:=900) (n:=60) (by decide +kernel)
def zsE:Kn Tryz.prog:=⟨114,[yk,vi 13],.tup [.agg [vi 10,vs ⟨#[112,120]⟩,vi 1000],vi 16],zuE⟩
theorem zuF:ze Tryz.prog 113 [yk,vi 13] (.tup [vi 13,vb false]):=zf (x:=xtK []) (l:=zo) (fl:=zk) (wk:=zl) (lim:=900) (n:=60) (by decide +kernel)
def zsF:Kn Tryz.prog:=⟨113,[yk,vi 13],.tup [vi 13,vb false],zuF⟩
end Go.Proofs.YtlaopdfpncckeaaGreatDoor
