/- Part of the proof of ContextMargins. No condition. -/
import Derived.Test.YtlaopdfpncckeaaGreatDoorAw2
namespace Go.Proofs.YtlaopdfpncckeaaGreatDoor
open Go.Sx
set_option maxRecDepth 100000
def znX:V:=.slc 1 [[vi (-1)],[vi 12],[vi (-1)],[vi (-1)],[vi (-1)],[vi (-1)],[vi (-1)],[vi 11],[vi (-1)],[vi (-1)],[vi (-1)],[vi (-1)],[vi (-1)]]
def ztn:V:=.tup [.slc 3 [[vs ⟨#[99,111,110,116,101,110,116]⟩,.slc 3 [[vi 6,vs ⟨#[120]⟩,vi 0]],vb false]],zL]
theorem zvV:ze Tryz.prog 92 [lw9,znX,vi 8,vi 11,vb false] (ztn):=zf (x:=xtK [znT]) (l:=zo) (fl:=zk) (wk:=zl) (lim:=900) (n:=60) (by decide +kernel)
def ziW:Kn Tryz.prog:=⟨92,[lw9,znX,vi 8,vi 11,vb false],ztn,zvV⟩
theorem zvW:ze Tryz.prog 51 [.slc 3 [[vi 2,vs ⟨#[114,101,100]⟩,vi 0]]] (.tup [.slc 1 [[vi (-1)]],vi 0]):=zf (x:=xtK []) (l:=zo) (fl:=zk) (wk:=zl) (lim:=900) (n:=60) (by decide +kernel)
def zfO:Kn Tryz.prog:=⟨51,[.slc 3 [[vi 2,vs ⟨#[114,101,100]⟩,vi 0]]],.tup [.slc 1 [[vi (-1)]],vi 0],zvW⟩
theorem zvX:ze Tryz.prog 93 [.slc 3 [[vi 2,vs ⟨#[114,101,100]⟩,vi 0]]] (vb true):=zf (x:=xtK [zaO,zc2,zfO]) (l:=zo) (fl:=zk) (wk:=zl) (lim:=900) (n:=60) (by decide +kernel)
def ziX:Kn Tryz.prog:=⟨93,[.slc 3 [[vi 2,vs ⟨#[114,101,100]⟩,vi 0]]],vb true,zvX⟩
def zto:V:=.tup [.agg [vs ⟨#[99,111,108,111,114]⟩,.slc 3 [[vi 2,vs ⟨#[114,101,100]⟩,vi 0]],vb false],vb true]
theorem zvY:ze Tryz.prog 116 [lw9,vi 2,vi 5] (zto):=zf (x:=xtK [zfM,zfN,ziX]) (l:=zo) (fl:=zk) (wk:=zl) (lim:=900) (n:=60) (by decide +kernel)
def zra:Kn Tryz.prog:=⟨116,[lw9,vi 2,vi 5],zto,zvY⟩
def ztp:V:=.tup [.slc 3 [[vs ⟨#[99,111,108,111,114]⟩,.slc 3 [[vi 2,vs ⟨#[114,101,100]⟩,vi 0]],vb false]],.slc 2 [[vs ⟨#[116,111,112,45,108,101,102,116]⟩,.slc 3 [[vs ⟨#[99,111,110,116,101,110,116]⟩,.slc 3 [[vi 6,vs ⟨#[120]⟩,vi 0]],vb false]]]]]
theorem zvZ:ze Tryz.prog 92 [lw9,znX,vi 2,vi 12,vb true] (ztp):=zf (x:=xtK [znT,ziW,zra]) (l:=zo) (fl:=zk) (wk:=zl) (lim:=900) (n:=60) (by decide +kernel)
def znU:Kn Tryz.prog:=⟨92,[lw9,znX,vi 2,vi 12,vb true],ztp,zvZ⟩
def ztq:V:=.tup [.slc 1 [[vi (-1)],[vi 12],[vi (-1)],[vi (-1)],[vi (-1)],[vi (-1)],[vi (-1)],[vi 11],[vi (-1)],[vi (-1)],[vi (-1)],[vi (-1)],[vi (-1)]],vi 0]
theorem zv0:ze Tryz.prog 51 [lw9] (ztq):=zf (x:=xtK []) (l:=zo) (fl:=zk) (wk:=zl) (lim:=900) (n:=60) (by decide +kernel)
def ziY:Kn Tryz.prog:=⟨51,[lw9],ztq,zv0⟩
def yp:V:=.slc 1 [[vi 64],[vi 112],[vi 97],[vi 103],[vi 101],[vi 123],[vi 99],[vi 111],[vi 108],[vi 111],[vi 114],[vi 58],[vi 114],[vi 101],[vi 100],[vi 59],[vi 64],[vi 116],[vi 111],[vi 112],[vi 45],[vi 108],[vi 101],[vi 102],[vi 116],[vi 123],[vi 99],[vi 111],[vi 110],[vi 116],[vi 101],[vi 110],[vi 116],[vi 58],[vi 39],[vi 120],[vi 39],[vi 125],[vi 125]]
theorem zv1:ze Tryz.prog 114 [yp,vi 38] (.tup [.agg [vi 13,vs ⟨#[125]⟩,vi 0],vi 39]):=zf (x:=xtK []) (l:=zo) (fl:=zk) (wk:=zl) (lim:=900) (n:=60) (by decide +kernel)
def zsT:Kn Tryz.prog:=⟨114,[yp,vi 38],.tup [.agg [vi 13,vs ⟨#[125]⟩,vi 0],vi 39],zv1⟩
theorem zv2:ze Tryz.prog 113 [yp,vi 38] (.tup [vi 38,vb false]):=zf (x:=xtK []) (l:=zo) (fl:=zk) (wk:=zl) (lim:=900) (n:=60) (by decide +kernel)
def zsU:Kn Tryz.prog:=⟨113,[yp,vi 38],.tup [vi 38,vb false],zv2⟩
theorem zv3:ze Tryz.prog 114 [yp,vi 37] (.tup [.agg [vi 13,vs ⟨#[125]⟩,vi 0],vi 38]):=zf (x:=xtK []) (l:=zo) (fl:=zk) (wk:=zl) (lim:=900) (n:=60) (by decide +kernel)
def zsV:Kn Tryz.prog:=⟨114,[yp,vi 37],.tup [.agg [vi 13,vs ⟨#[125]⟩,vi 0],vi 38],zv3⟩
theorem zv4:ze Tryz.prog 113 [yp,vi 37] (.tup [vi 37,vb false]):=zf (x:=xtK []) (l:=zo) (fl:=zk) (wk:=zl) (lim:=900) (n:=60) (by decide +kernel)
def zsW:Kn Tryz.prog:=⟨113,[yp,vi 37],.tup [vi 37,vb false],zv4⟩
theorem zv5:ze Tryz.prog 114 [yp,vi 34] (.tup [.agg [vi 6,vs ⟨#[120]⟩,vi 0],vi 37]):=zf (x:=xtK []) (l:=zo) (fl:=zk) (wk:=zl) (lim:=900) (n:=60) (by decide +kernel)
def zsX:Kn Tryz.prog:=⟨114,[yp,vi 34],.tup [.agg [vi 6,vs ⟨#[120]⟩,vi 0],vi 37],zv5⟩
theorem zv6:ze Tryz.prog 113 [yp,vi 34] (.tup [vi 34,vb false]):=zf (x:=xtK []) (l:=zo) (fl:=zk) (wk:=zl) (lim:=900) (n:=60) (by decide +kernel)
def zsY:Kn Tryz.prog:=⟨113,[yp,vi 34],.tup [vi 34,vb false],zv6⟩
theorem zv7:ze Tryz.prog 114 [yp,vi 33] (.tup [.agg [vi 14,vs ⟨#[]⟩,vi 0],vi 34]):=zf (x:=xtK []) (l:=zo) (fl:=zk) (wk:=zl) (lim:=900) (n:=60) (by decide +kernel)
def zsZ:Kn Tryz.prog:=⟨114,[yp,vi 33],.tup [.agg [vi 14,vs ⟨#[]⟩,vi 0],vi 34],zv7⟩
theorem zv8:ze Tryz.prog 113 [yp,vi 33] (.tup [vi 33,vb false]):=zf (x:=xtK []) (l:=zo) (fl:=zk) (wk:=zl) (lim:=900) (n:=60) (by decide +kernel)
def zs0:Kn Tryz.prog:=⟨113,[yp,vi 33],.tup [vi 33,vb false],zv8⟩
def ztr:V:=.tup [.agg [vi 2,vs ⟨#[99,111,110,116,101,110,116]⟩,vi 0],vi 33]
theorem zv9:ze Tryz.prog 114 [yp,vi 26] (ztr):=zf (x:=xtK []) (l:=zo) (fl:=zk) (wk:=zl) (lim:=900) (n:=60) (by decide +kernel)
def zs1:Kn Tryz.prog:=⟨114,[yp,vi 26],ztr,zv9⟩
theorem zwa:ze Tryz.prog 113 [yp,vi 26] (.tup [vi 26,vb false]):=zf (x:=xtK []) (l:=zo) (fl:=zk) (wk:=zl) (lim:=900) (n:=60) (by decide +kernel)
def zs2:Kn Tryz.prog:=⟨113,[yp,vi 26],.tup [vi 26,vb false],zwa⟩
theorem zwb:ze Tryz.prog 114 [yp,vi 25] (.tup [.agg [vi 12,vs ⟨#[123]⟩,vi 0],vi 26]):=zf (x:=xtK []) (l:=zo) (fl:=zk) (wk:=zl) (lim:=900) (n:=60) (by decide +kernel)
def zs3:Kn Tryz.prog:=⟨114,[yp,vi 25],.tup [.agg [vi 12,vs ⟨#[123]⟩,vi 0],vi 26],zwb⟩
theorem zwc:ze Tryz.prog 113 [yp,vi 25] (.tup [vi 25,vb false]):=zf (x:=xtK []) (l:=zo) (fl:=zk) (wk:=zl) (lim:=900) (n:=60) (by decide +kernel)
def zs4:Kn Tryz.prog:=⟨113,[yp,vi 25],.tup [vi 25,vb false],zwc⟩
def zts:V:=.tup [.agg [vi 4,vs ⟨#[116,111,112,45,108,101,102,116]⟩,vi 0],vi 25]
theorem zwd:ze Tryz.prog 114 [yp,vi 16] (zts):=zf (x:=xtK []) (l:=zo) (fl:=zk) (wk:=zl) (lim:=900) (n:=60) (by decide +kernel)
def zs5:Kn Tryz.prog:=⟨114,[yp,vi 16],zts,zwd⟩
theorem zwe:ze Tryz.prog 113 [yp,vi 16] (.tup [vi 16,vb false]):=zf (x:=xtK []) (l:=zo) (fl:=zk) (wk:=zl) (lim:=900) (n:=60) (by decide +kernel)
def zs6:Kn Tryz.prog:=⟨113,[yp,vi 16],.tup [vi 16,vb false],zwe⟩
theorem zwf:ze Tryz.prog 114 [yp,vi 15] (.tup [.agg [vi 15,vs ⟨#[]⟩,vi 0],vi 16]):=zf (x:=xtK []) (l:=zo) (fl:=zk) (wk:=zl) (lim:=900) (n:=60) (by decide +kernel)
def zs7:Kn Tryz.prog:=⟨114,[yp,vi 15],.tup [.agg [vi 15,vs ⟨#[]⟩,vi 0],vi 16],zwf⟩
theorem zwg:ze Tryz.prog 113 [yp,vi 15] (.tup [vi 15,vb false]):=zf (x:=xtK []) (l:=zo) (fl:=zk) (wk:=zl) (lim:=900) (n:=60) (by decide +kernel)
def zs8:Kn Tryz.prog:=⟨113,[yp,vi 15],.tup [vi 15,vb false],zwg⟩
theorem zwh:ze Tryz.prog 114 [yp,vi 12] (.tup [.agg [vi 2,vs ⟨#[114,101,100]⟩,vi 0],vi 15]):=zf (x:=xtK []) (l:=zo) (fl:=zk) (wk:=zl) (lim:=900) (n:=60) (by decide +kernel)
def zs9:Kn Tryz.prog:=⟨114,[yp,vi 12],.tup [.agg [vi 2,vs ⟨#[114,101,100]⟩,vi 0],vi 15],zwh⟩
theorem zwi:ze Tryz.prog 113 [yp,vi 12] (.tup [vi 12,vb false]):=zf (x:=xtK []) (l:=zo) (fl:=zk) (wk:=zl) (lim:=900) (n:=60) (by decide +kernel)
def zta:Kn Tryz.prog:=⟨113,[yp,vi 12],.tup [vi 12,vb false],zwi⟩
theorem zwj:ze Tryz.prog 114 [yp,vi 11] (.tup [.agg [vi 14,vs ⟨#[]⟩,vi 0],vi 12]):=zf (x:=xtK []) (l:=zo) (fl:=zk) (wk:=zl) (lim:=900) (n:=60) (by decide +kernel)
def ztb:Kn Tryz.prog:=⟨114,[yp,vi 11],.tup [.agg [vi 14,vs ⟨#[]⟩,vi 0],vi 12],zwj⟩
end Go.Proofs.YtlaopdfpncckeaaGreatDoor
