/- Part of the proof of CascadeWins. No condition. -/
import Derived.Test.YtjcmoedalneldaaGreatKn
import Derived.Test.YtjcmoedalneldaaGreatProg
namespace Go.Proofs.YtjcmoedalneldaaGreat
open Go.Sx
set_option maxRecDepth 100000
noncomputable def feK (k:Nat)(h:(zr Tryz.prog k).isSome=true):Fe Tryz.prog:=⟨k,(zr Tryz.prog k).get h,(Option.some_get h).symm⟩
noncomputable def yh:List (Fe Tryz.prog):=[feK 8 (by decide +kernel),feK 10 (by decide +kernel),feK 12 (by decide +kernel),feK 14 (by decide +kernel),feK 18 (by decide +kernel),feK 28 (by decide +kernel),feK 30 (by decide +kernel),feK 31 (by decide +kernel),feK 34 (by decide +kernel),feK 35 (by decide +kernel),feK 36 (by decide +kernel),feK 37 (by decide +kernel),feK 39 (by decide +kernel),feK 40 (by decide +kernel),feK 41 (by decide +kernel),feK 42 (by decide +kernel),feK 43 (by decide +kernel),feK 44 (by decide +kernel),feK 55 (by decide +kernel),feK 56 (by decide +kernel),feK 57 (by decide +kernel),feK 58 (by decide +kernel),feK 59 (by decide +kernel),feK 62 (by decide +kernel),feK 63 (by decide +kernel),feK 64 (by decide +kernel),feK 65 (by decide +kernel),feK 66 (by decide +kernel),feK 67 (by decide +kernel),feK 68 (by decide +kernel),feK 69 (by decide +kernel),feK 71 (by decide +kernel),feK 72 (by decide +kernel),feK 73 (by decide +kernel),feK 74 (by decide +kernel),feK 75 (by decide +kernel),feK 77 (by decide +kernel),feK 78 (by decide +kernel),feK 79 (by decide +kernel),feK 81 (by decide +kernel),feK 82 (by decide +kernel),feK 83 (by decide +kernel),feK 89 (by decide +kernel),feK 90 (by decide +kernel),feK 91 (by decide +kernel),feK 92 (by decide +kernel),feK 93 (by decide +kernel),feK 94 (by decide +kernel),feK 95 (by decide +kernel),feK 96 (by decide +kernel),feK 97 (by decide +kernel),feK 98 (by decide +kernel),feK 99 (by decide +kernel),feK 100 (by decide +kernel),feK 101 (by decide +kernel),feK 103 (by decide +kernel),feK 104 (by decide +kernel),feK 106 (by decide +kernel),feK 107 (by decide +kernel),feK 113 (by decide +kernel),feK 114 (by decide +kernel),feK 115 (by decide +kernel),feK 116 (by decide +kernel),feK 117 (by decide +kernel),feK 118 (by decide +kernel),feK 119 (by decide +kernel),feK 121 (by decide +kernel),feK 123 (by decide +kernel),feK 124 (by decide +kernel),feK 125 (by decide +kernel),feK 126 (by decide +kernel),feK 127 (by decide +kernel),feK 128 (by decide +kernel),feK 130 (by decide +kernel),feK 131 (by decide +kernel),feK 139 (by decide +kernel),feK 140 (by decide +kernel),feK 141 (by decide +kernel),feK 143 (by decide +kernel),feK 144 (by decide +kernel),feK 145 (by decide +kernel),feK 149 (by decide +kernel),feK 150 (by decide +kernel),feK 151 (by decide +kernel),feK 152 (by decide +kernel),feK 154 (by decide +kernel),feK 155 (by decide +kernel),feK 156 (by decide +kernel),feK 157 (by decide +kernel),feK 158 (by decide +kernel),feK 165 (by decide +kernel),feK 168 (by decide +kernel),feK 169 (by decide +kernel),feK 170 (by decide +kernel),feK 171 (by decide +kernel),feK 173 (by decide +kernel),feK 174 (by decide +kernel),feK 175 (by decide +kernel),feK 177 (by decide +kernel),feK 178 (by decide +kernel),feK 180 (by decide +kernel)]
def zN:List Nat:=[8,10,12,28,31,34,36,57,59,65,66,67,68,69,72,73,74,77,78,83,94,95,96,100,103,104,107,121,123,124,125,126,130,140,141,143,144,149,152,155,156,157,158,165,168,171,173,174,175,177,180]
def zO:List Nat:=[39]
def lw0:V:=.agg [vi 1,.slc 3 [[vi 2,vs ⟨#[112]⟩,vi 0]],.slc 3 [[vs ⟨#[98,114,101,97,107,45,98,101,102,111,114,101]⟩,.slc 3 [[vi 2,vs ⟨#[120]⟩,vi 0]],vb false],[vs ⟨#[112,97,103,101]⟩,.slc 3 [[vi 2,vs ⟨#[97]⟩,vi 0]],vb false]],zz]
def lw1:V:=.slc 6 [[vi (-1),vs ⟨#[112]⟩,vs ⟨#[]⟩,zz,zz,vs ⟨#[]⟩]]
theorem tw0:zf Tryz.prog 35 [lw0,lw1,vi 0] (.tup [.agg [vi 0,vi 0,vi 1],vb true]):=zv (x:=xtK []) (l:=yh) (fl:=zN) (wk:=zO) (lim:=900) (n:=60) (by decide +kernel)
def kw0:Kn Tryz.prog:=⟨35,[lw0,lw1,vi 0],.tup [.agg [vi 0,vi 0,vi 1],vb true],tw0⟩
def lw2:V:=.agg [vi 1,.slc 3 [[vi 2,vs ⟨#[112]⟩,vi 0]],.slc 3 [[vs ⟨#[98,114,101,97,107,45,98,101,102,111,114,101]⟩,.slc 3 [[vi 2,vs ⟨#[108,101,102,116]⟩,vi 0]],vb false]],zz]
theorem tw1:zf Tryz.prog 35 [lw2,lw1,vi 0] (.tup [.agg [vi 0,vi 0,vi 1],vb true]):=zv (x:=xtK [kw0]) (l:=yh) (fl:=zN) (wk:=zO) (lim:=900) (n:=60) (by decide +kernel)
def kw1:Kn Tryz.prog:=⟨35,[lw2,lw1,vi 0],.tup [.agg [vi 0,vi 0,vi 1],vb true],tw1⟩
theorem tw2:zf Tryz.prog 34 [lw1,vi 0] (vb true):=zv (x:=xtK [kw0,kw1]) (l:=yh) (fl:=zN) (wk:=zO) (lim:=900) (n:=60) (by decide +kernel)
def kw2:Kn Tryz.prog:=⟨34,[lw1,vi 0],vb true,tw2⟩
def lw3:V:=.slc 1 [[.slc 4 [[vi 1,.slc 3 [[vi 2,vs ⟨#[112]⟩,vi 0]],.slc 3 [[vs ⟨#[98,114,101,97,107,45,98,101,102,111,114,101]⟩,.slc 3 [[vi 2,vs ⟨#[108,101,102,116]⟩,vi 0]],vb false]],zz],[vi 1,.slc 3 [[vi 2,vs ⟨#[112]⟩,vi 0]],.slc 3 [[vs ⟨#[98,114,101,97,107,45,98,101,102,111,114,101]⟩,.slc 3 [[vi 2,vs ⟨#[120]⟩,vi 0]],vb false],[vs ⟨#[112,97,103,101]⟩,.slc 3 [[vi 2,vs ⟨#[97]⟩,vi 0]],vb false]],zz]]]]
theorem tw3:zf Tryz.prog 14 [lw3,lw1,vi 0,vi 7] (.tup [.agg [vi 0,vi 0,vi 0,vi 0,vi 0],zz,vb false]):=zv (x:=xtK [kw0,kw1,kw2]) (l:=yh) (fl:=zN) (wk:=zO) (lim:=900) (n:=60) (by decide +kernel)
def kw3:Kn Tryz.prog:=⟨14,[lw3,lw1,vi 0,vi 7],.tup [.agg [vi 0,vi 0,vi 0,vi 0,vi 0],zz,vb false],tw3⟩
theorem tw4:zf Tryz.prog 14 [lw3,lw1,vi 0,vi 6] (.tup [.agg [vi 0,vi 0,vi 0,vi 0,vi 0],zz,vb false]):=zv (x:=xtK [kw0,kw1,kw2,kw3]) (l:=yh) (fl:=zN) (wk:=zO) (lim:=900) (n:=60) (by decide +kernel)
def kw4:Kn Tryz.prog:=⟨14,[lw3,lw1,vi 0,vi 6],.tup [.agg [vi 0,vi 0,vi 0,vi 0,vi 0],zz,vb false],tw4⟩
theorem tw5:zf Tryz.prog 14 [lw3,lw1,vi 0,vi 5] (.tup [.agg [vi 0,vi 0,vi 0,vi 0,vi 0],zz,vb false]):=zv (x:=xtK [kw0,kw1,kw2,kw3,kw4]) (l:=yh) (fl:=zN) (wk:=zO) (lim:=900) (n:=60) (by decide +kernel)
def kw5:Kn Tryz.prog:=⟨14,[lw3,lw1,vi 0,vi 5],.tup [.agg [vi 0,vi 0,vi 0,vi 0,vi 0],zz,vb false],tw5⟩
theorem tw6:zf Tryz.prog 14 [lw3,lw1,vi 0,vi 4] (.tup [.agg [vi 0,vi 0,vi 0,vi 0,vi 0],zz,vb false]):=zv (x:=xtK [kw0,kw1,kw2,kw3,kw4,kw5]) (l:=yh) (fl:=zN) (wk:=zO) (lim:=900) (n:=60) (by decide +kernel)
def kw6:Kn Tryz.prog:=⟨14,[lw3,lw1,vi 0,vi 4],.tup [.agg [vi 0,vi 0,vi 0,vi 0,vi 0],zz,vb false],tw6⟩
theorem tw7:zf Tryz.prog 14 [lw3,lw1,vi 0,vi 3] (.tup [.agg [vi 0,vi 0,vi 0,vi 0,vi 0],zz,vb false]):=zv (x:=xtK [kw0,kw1,kw2,kw3,kw4,kw5,kw6]) (l:=yh) (fl:=zN) (wk:=zO) (lim:=900) (n:=60) (by decide +kernel)
def kw7:Kn Tryz.prog:=⟨14,[lw3,lw1,vi 0,vi 3],.tup [.agg [vi 0,vi 0,vi 0,vi 0,vi 0],zz,vb false],tw7⟩
def lw4:V:=.tup [.agg [vi 0,vi 0,vi 0,vi 1,vi 2],.slc 3 [[vi 2,vs ⟨#[97]⟩,vi 0]],vb true]
theorem tw8:zf Tryz.prog 14 [lw3,lw1,vi 0,vi 2] (lw4):=zv (x:=xtK [kw0,kw1,kw2,kw3,kw4,kw5,kw6,kw7]) (l:=yh) (fl:=zN) (wk:=zO) (lim:=900) (n:=60) (by decide +kernel)
def kw8:Kn Tryz.prog:=⟨14,[lw3,lw1,vi 0,vi 2],lw4,tw8⟩
theorem tw9:zf Tryz.prog 14 [lw3,lw1,vi 0,vi 1] (.tup [.agg [vi 0,vi 0,vi 0,vi 0,vi 0],zz,vb false]):=zv (x:=xtK [kw0,kw1,kw2,kw3,kw4,kw5,kw6,kw7,kw8]) (l:=yh) (fl:=zN) (wk:=zO) (lim:=900) (n:=60) (by decide +kernel)
def kw9:Kn Tryz.prog:=⟨14,[lw3,lw1,vi 0,vi 1],.tup [.agg [vi 0,vi 0,vi 0,vi 0,vi 0],zz,vb false],tw9⟩
def lw5:V:=.tup [.agg [vi 0,vi 0,vi 0,vi 1,vi 0],.slc 3 [[vi 2,vs ⟨#[108,101,102,116]⟩,vi 0]],vb true]
theorem zCx:zf Tryz.prog 14 [lw3,lw1,vi 0,vi 0] (lw5):=zv (x:=xtK [kw0,kw1,kw2,kw3,kw4,kw5,kw6,kw7,kw8,kw9]) (l:=yh) (fl:=zN) (wk:=zO) (lim:=900) (n:=60) (by decide +kernel)
def yC:Kn Tryz.prog:=⟨14,[lw3,lw1,vi 0,vi 0],lw5,zCx⟩
theorem zCy:zf Tryz.prog 81 [.slc 3 [[vi 2,vs ⟨#[112]⟩,vi 0]]] (.tup [.slc 1 [[vi (-1)]],vi 0]):=zv (x:=xtK [kw0,kw1,kw2,kw3,kw4,kw5,kw6,kw7,kw8,kw9,yC]) (l:=yh) (fl:=zN) (wk:=zO) (lim:=900) (n:=60) (by decide +kernel)
def yD:Kn Tryz.prog:=⟨81,[.slc 3 [[vi 2,vs ⟨#[112]⟩,vi 0]]],.tup [.slc 1 [[vi (-1)]],vi 0],zCy⟩
theorem zCz:zf Tryz.prog 94 [.slc 3 [[vi 2,vs ⟨#[112]⟩,vi 0]]] (vb true):=zv (x:=xtK [kw0,kw1,kw2,kw3,kw4,kw5,kw6,kw7,kw8,kw9,yC,yD]) (l:=yh) (fl:=zN) (wk:=zO) (lim:=900) (n:=60) (by decide +kernel)
def yF:Kn Tryz.prog:=⟨94,[.slc 3 [[vi 2,vs ⟨#[112]⟩,vi 0]]],vb true,zCz⟩
theorem zCA:zf Tryz.prog 81 [.slc 3 [[vi 2,vs ⟨#[97]⟩,vi 0]]] (.tup [.slc 1 [[vi (-1)]],vi 0]):=zv (x:=xtK [kw0,kw1,kw2,kw3,kw4,kw5,kw6,kw7,kw8,kw9,yC,yD,yF]) (l:=yh) (fl:=zN) (wk:=zO) (lim:=900) (n:=60) (by decide +kernel)
def yK:Kn Tryz.prog:=⟨81,[.slc 3 [[vi 2,vs ⟨#[97]⟩,vi 0]]],.tup [.slc 1 [[vi (-1)]],vi 0],zCA⟩
theorem zCB:zf Tryz.prog 94 [.slc 3 [[vi 2,vs ⟨#[97]⟩,vi 0]]] (vb true):=zv (x:=xtK [kw0,kw1,kw2,kw3,kw4,kw5,kw6,kw7,kw8,kw9,yC,yD,yF,yK]) (l:=yh) (fl:=zN) (wk:=zO) (lim:=900) (n:=60) (by decide +kernel)
def yM:Kn Tryz.prog:=⟨94,[.slc 3 [[vi 2,vs ⟨#[97]⟩,vi 0]]],vb true,zCB⟩
def lw6:V:=.slc 3 [[vi 2,vs ⟨#[112]⟩,vi 0],[vi 12,vs ⟨#[123]⟩,vi 0],[vi 2,vs ⟨#[98,114,101,97,107,45,98,101,102,111,114,101]⟩,vi 0],[vi 14,vs ⟨#[]⟩,vi 0],[vi 2,vs ⟨#[108,101,102,116]⟩,vi 0],[vi 13,vs ⟨#[125]⟩,vi 0],[vi 1,vs ⟨#[]⟩,vi 0],[vi 2,vs ⟨#[112]⟩,vi 0],[vi 12,vs ⟨#[123]⟩,vi 0],[vi 2,vs ⟨#[98,114,101,97,107,45,98,101,102,111,114,101]⟩,vi 0],[vi 14,vs ⟨#[]⟩,vi 0],[vi 2,vs ⟨#[120]⟩,vi 0],[vi 15,vs ⟨#[]⟩,vi 0],[vi 2,vs ⟨#[112,97,103,101]⟩,vi 0],[vi 14,vs ⟨#[]⟩,vi 0],[vi 2,vs ⟨#[97]⟩,vi 0],[vi 13,vs ⟨#[125]⟩,vi 0]]
def lw7:V:=.tup [.agg [vs ⟨#[112,97,103,101]⟩,.slc 3 [[vi 2,vs ⟨#[97]⟩,vi 0]],vb false],vb true]
theorem zCC:zf Tryz.prog 119 [lw6,vi 13,vi 16] (lw7):=zv (x:=xtK [kw0,kw1,kw2,kw3,kw4,kw5,kw6,kw7,kw8,kw9,yC,yD,yF,yK,yM]) (l:=yh) (fl:=zN) (wk:=zO) (lim:=900) (n:=60) (by decide +kernel)
def yS:Kn Tryz.prog:=⟨119,[lw6,vi 13,vi 16],lw7,zCC⟩
theorem zCD:zf Tryz.prog 81 [.slc 3 [[vi 2,vs ⟨#[120]⟩,vi 0]]] (.tup [.slc 1 [[vi (-1)]],vi 0]):=zv (x:=xtK [kw0,kw1,kw2,kw3,kw4,kw5,kw6,kw7,kw8,kw9,yC,yD,yF,yK,yM,yS]) (l:=yh) (fl:=zN) (wk:=zO) (lim:=900) (n:=60) (by decide +kernel)
def yW:Kn Tryz.prog:=⟨81,[.slc 3 [[vi 2,vs ⟨#[120]⟩,vi 0]]],.tup [.slc 1 [[vi (-1)]],vi 0],zCD⟩
theorem zCE:zf Tryz.prog 94 [.slc 3 [[vi 2,vs ⟨#[120]⟩,vi 0]]] (vb true):=zv (x:=xtK [kw0,kw1,kw2,kw3,kw4,kw5,kw6,kw7,kw8,kw9,yC,yD,yF,yK,yM,yS,yW]) (l:=yh) (fl:=zN) (wk:=zO) (lim:=900) (n:=60) (by decide +kernel)
def yZ:Kn Tryz.prog:=⟨94,[.slc 3 [[vi 2,vs ⟨#[120]⟩,vi 0]]],vb true,zCE⟩
def lw8:V:=.tup [.agg [vs ⟨#[98,114,101,97,107,45,98,101,102,111,114,101]⟩,.slc 3 [[vi 2,vs ⟨#[120]⟩,vi 0]],vb false],vb true]
theorem zCF:zf Tryz.prog 119 [lw6,vi 9,vi 12] (lw8):=zv (x:=xtK [kw0,kw1,kw2,kw3,kw4,kw5,kw6,kw7,kw8,kw9,yC,yD,yF,yK,yM,yS,yW,yZ]) (l:=yh) (fl:=zN) (wk:=zO) (lim:=900) (n:=60) (by decide +kernel)
def y6:Kn Tryz.prog:=⟨119,[lw6,vi 9,vi 12],lw8,zCF⟩
def lw9:V:=.slc 1 [[vi (-1)],[vi 5],[vi (-1)],[vi (-1)],[vi (-1)],[vi (-1)],[vi (-1)],[vi (-1)],[vi 16],[vi (-1)],[vi (-1)],[vi (-1)],[vi (-1)],[vi (-1)],[vi (-1)],[vi (-1)],[vi (-1)]]
def zB1:V:=.tup [.slc 3 [[vs ⟨#[98,114,101,97,107,45,98,101,102,111,114,101]⟩,.slc 3 [[vi 2,vs ⟨#[120]⟩,vi 0]],vb false],[vs ⟨#[112,97,103,101]⟩,.slc 3 [[vi 2,vs ⟨#[97]⟩,vi 0]],vb false]],zz]
theorem zCG:zf Tryz.prog 93 [lw6,lw9,vi 9,vi 16,vb false] (zB1):=zv (x:=xtK [kw0,kw1,kw2,kw3,kw4,kw5,kw6,kw7,kw8,kw9,yC,yD,yF,yK,yM,yS,yW,yZ,y6]) (l:=yh) (fl:=zN) (wk:=zO) (lim:=900) (n:=60) (by decide +kernel)
def qb:Kn Tryz.prog:=⟨93,[lw6,lw9,vi 9,vi 16,vb false],zB1,zCG⟩
theorem zCH:zf Tryz.prog 81 [.slc 3 [[vi 2,vs ⟨#[108,101,102,116]⟩,vi 0]]] (.tup [.slc 1 [[vi (-1)]],vi 0]):=zv (x:=xtK [kw0,kw1,kw2,kw3,kw4,kw5,kw6,kw7,kw8,kw9,yC,yD,yF,yK,yM,yS,yW,yZ,y6,qb]) (l:=yh) (fl:=zN) (wk:=zO) (lim:=900) (n:=60) (by decide +kernel)
def qh:Kn Tryz.prog:=⟨81,[.slc 3 [[vi 2,vs ⟨#[108,101,102,116]⟩,vi 0]]],.tup [.slc 1 [[vi (-1)]],vi 0],zCH⟩
theorem zCI:zf Tryz.prog 94 [.slc 3 [[vi 2,vs ⟨#[108,101,102,116]⟩,vi 0]]] (vb true):=zv (x:=xtK [kw0,kw1,kw2,kw3,kw4,kw5,kw6,kw7,kw8,kw9,yC,yD,yF,yK,yM,yS,yW,yZ,y6,qb,qh]) (l:=yh) (fl:=zN) (wk:=zO) (lim:=900) (n:=60) (by decide +kernel)
def qk:Kn Tryz.prog:=⟨94,[.slc 3 [[vi 2,vs ⟨#[108,101,102,116]⟩,vi 0]]],vb true,zCI⟩
def zB2:V:=.tup [.agg [vs ⟨#[98,114,101,97,107,45,98,101,102,111,114,101]⟩,.slc 3 [[vi 2,vs ⟨#[108,101,102,116]⟩,vi 0]],vb false],vb true]
theorem zCJ:zf Tryz.prog 119 [lw6,vi 2,vi 5] (zB2):=zv (x:=xtK [kw0,kw1,kw2,kw3,kw4,kw5,kw6,kw7,kw8,kw9,yC,yD,yF,yK,yM,yS,yW,yZ,y6,qb,qh,qk]) (l:=yh) (fl:=zN) (wk:=zO) (lim:=900) (n:=60) (by decide +kernel)
def qq:Kn Tryz.prog:=⟨119,[lw6,vi 2,vi 5],zB2,zCJ⟩
def zB3:V:=.tup [.slc 3 [[vs ⟨#[98,114,101,97,107,45,98,101,102,111,114,101]⟩,.slc 3 [[vi 2,vs ⟨#[108,101,102,116]⟩,vi 0]],vb false]],zz]
theorem zCK:zf Tryz.prog 93 [lw6,lw9,vi 2,vi 5,vb false] (zB3):=zv (x:=xtK [kw0,kw1,kw2,kw3,kw4,kw5,kw6,kw7,kw8,kw9,yC,yD,yF,yK,yM,yS,yW,yZ,y6,qb,qh,qk,qq]) (l:=yh) (fl:=zN) (wk:=zO) (lim:=900) (n:=60) (by decide +kernel)
def qx:Kn Tryz.prog:=⟨93,[lw6,lw9,vi 2,vi 5,vb false],zB3,zCK⟩
def zB4:V:=.tup [.slc 1 [[vi (-1)],[vi 5],[vi (-1)],[vi (-1)],[vi (-1)],[vi (-1)],[vi (-1)],[vi (-1)],[vi 16],[vi (-1)],[vi (-1)],[vi (-1)],[vi (-1)],[vi (-1)],[vi (-1)],[vi (-1)],[vi (-1)]],vi 0]
theorem zCL:zf Tryz.prog 81 [lw6] (zB4):=zv (x:=xtK [kw0,kw1,kw2,kw3,kw4,kw5,kw6,kw7,kw8,kw9,yC,yD,yF,yK,yM,yS,yW,yZ,y6,qb,qh,qk,qq,qx]) (l:=yh) (fl:=zN) (wk:=zO) (lim:=900) (n:=60) (by decide +kernel)
def qG:Kn Tryz.prog:=⟨81,[lw6],zB4,zCL⟩
def z5:V:=.slc 1 [[vi 112],[vi 123],[vi 98],[vi 114],[vi 101],[vi 97],[vi 107],[vi 45],[vi 98],[vi 101],[vi 102],[vi 111],[vi 114],[vi 101],[vi 58],[vi 108],[vi 101],[vi 102],[vi 116],[vi 125],[vi 32],[vi 112],[vi 123],[vi 98],[vi 114],[vi 101],[vi 97],[vi 107],[vi 45],[vi 98],[vi 101],[vi 102],[vi 111],[vi 114],[vi 101],[vi 58],[vi 120],[vi 59],[vi 112],[vi 97],[vi 103],[vi 101],[vi 58],[vi 97],[vi 125]]
theorem zCM:zf Tryz.prog 116 [z5,vi 44] (.tup [.agg [vi 13,vs ⟨#[125]⟩,vi 0],vi 45]):=zv (x:=xtK [kw0,kw1,kw2,kw3,kw4,kw5,kw6,kw7,kw8,kw9,yC,yD,yF,yK,yM,yS,yW,yZ,y6,qb,qh,qk,qq,qx,qG]) (l:=yh) (fl:=zN) (wk:=zO) (lim:=900) (n:=60) (by decide +kernel)
def qM:Kn Tryz.prog:=⟨116,[z5,vi 44],.tup [.agg [vi 13,vs ⟨#[125]⟩,vi 0],vi 45],zCM⟩
theorem zCN:zf Tryz.prog 115 [z5,vi 44] (.tup [vi 44,vb false]):=zv (x:=xtK [kw0,kw1,kw2,kw3,kw4,kw5,kw6,kw7,kw8,kw9,yC,yD,yF,yK,yM,yS,yW,yZ,y6,qb,qh,qk,qq,qx,qG,qM]) (l:=yh) (fl:=zN) (wk:=zO) (lim:=900) (n:=60) (by decide +kernel)
def qS:Kn Tryz.prog:=⟨115,[z5,vi 44],.tup [vi 44,vb false],zCN⟩
theorem zCO:zf Tryz.prog 116 [z5,vi 43] (.tup [.agg [vi 2,vs ⟨#[97]⟩,vi 0],vi 44]):=zv (x:=xtK [kw0,kw1,kw2,kw3,kw4,kw5,kw6,kw7,kw8,kw9,yC,yD,yF,yK,yM,yS,yW,yZ,y6,qb,qh,qk,qq,qx,qG,qM,qS]) (l:=yh) (fl:=zN) (wk:=zO) (lim:=900) (n:=60) (by decide +kernel)
def q9:Kn Tryz.prog:=⟨116,[z5,vi 43],.tup [.agg [vi 2,vs ⟨#[97]⟩,vi 0],vi 44],zCO⟩
theorem zCP:zf Tryz.prog 115 [z5,vi 43] (.tup [vi 43,vb false]):=zv (x:=xtK [kw0,kw1,kw2,kw3,kw4,kw5,kw6,kw7,kw8,kw9,yC,yD,yF,yK,yM,yS,yW,yZ,y6,qb,qh,qk,qq,qx,qG,qM,qS,q9]) (l:=yh) (fl:=zN) (wk:=zO) (lim:=900) (n:=60) (by decide +kernel)
def kh:Kn Tryz.prog:=⟨115,[z5,vi 43],.tup [vi 43,vb false],zCP⟩
theorem zCQ:zf Tryz.prog 116 [z5,vi 42] (.tup [.agg [vi 14,vs ⟨#[]⟩,vi 0],vi 43]):=zv (x:=xtK [kw0,kw1,kw2,kw3,kw4,kw5,kw6,kw7,kw8,kw9,yC,yD,yF,yK,yM,yS,yW,yZ,y6,qb,qh,qk,qq,qx,qG,qM,qS,q9,kh]) (l:=yh) (fl:=zN) (wk:=zO) (lim:=900) (n:=60) (by decide +kernel)
def kk:Kn Tryz.prog:=⟨116,[z5,vi 42],.tup [.agg [vi 14,vs ⟨#[]⟩,vi 0],vi 43],zCQ⟩
theorem zCR:zf Tryz.prog 115 [z5,vi 42] (.tup [vi 42,vb false]):=zv (x:=xtK [kw0,kw1,kw2,kw3,kw4,kw5,kw6,kw7,kw8,kw9,yC,yD,yF,yK,yM,yS,yW,yZ,y6,qb,qh,qk,qq,qx,qG,qM,qS,q9,kh,kk]) (l:=yh) (fl:=zN) (wk:=zO) (lim:=900) (n:=60) (by decide +kernel)
def kz:Kn Tryz.prog:=⟨115,[z5,vi 42],.tup [vi 42,vb false],zCR⟩
theorem zCS:zf Tryz.prog 116 [z5,vi 38] (.tup [.agg [vi 2,vs ⟨#[112,97,103,101]⟩,vi 0],vi 42]):=zv (x:=xtK [kw0,kw1,kw2,kw3,kw4,kw5,kw6,kw7,kw8,kw9,yC,yD,yF,yK,yM,yS,yW,yZ,y6,qb,qh,qk,qq,qx,qG,qM,qS,q9,kh,kk,kz]) (l:=yh) (fl:=zN) (wk:=zO) (lim:=900) (n:=60) (by decide +kernel)
def kJ:Kn Tryz.prog:=⟨116,[z5,vi 38],.tup [.agg [vi 2,vs ⟨#[112,97,103,101]⟩,vi 0],vi 42],zCS⟩
theorem zCT:zf Tryz.prog 115 [z5,vi 38] (.tup [vi 38,vb false]):=zv (x:=xtK [kw0,kw1,kw2,kw3,kw4,kw5,kw6,kw7,kw8,kw9,yC,yD,yF,yK,yM,yS,yW,yZ,y6,qb,qh,qk,qq,qx,qG,qM,qS,q9,kh,kk,kz,kJ]) (l:=yh) (fl:=zN) (wk:=zO) (lim:=900) (n:=60) (by decide +kernel)
def kS:Kn Tryz.prog:=⟨115,[z5,vi 38],.tup [vi 38,vb false],zCT⟩
theorem zCU:zf Tryz.prog 116 [z5,vi 37] (.tup [.agg [vi 15,vs ⟨#[]⟩,vi 0],vi 38]):=zv (x:=xtK [kw0,kw1,kw2,kw3,kw4,kw5,kw6,kw7,kw8,kw9,yC,yD,yF,yK,yM,yS,yW,yZ,y6,qb,qh,qk,qq,qx,qG,qM,qS,q9,kh,kk,kz,kJ,kS]) (l:=yh) (fl:=zN) (wk:=zO) (lim:=900) (n:=60) (by decide +kernel)
def k9:Kn Tryz.prog:=⟨116,[z5,vi 37],.tup [.agg [vi 15,vs ⟨#[]⟩,vi 0],vi 38],zCU⟩
theorem zCV:zf Tryz.prog 115 [z5,vi 37] (.tup [vi 37,vb false]):=zv (x:=xtK [kw0,kw1,kw2,kw3,kw4,kw5,kw6,kw7,kw8,kw9,yC,yD,yF,yK,yM,yS,yW,yZ,y6,qb,qh,qk,qq,qx,qG,qM,qS,q9,kh,kk,kz,kJ,kS,k9]) (l:=yh) (fl:=zN) (wk:=zO) (lim:=900) (n:=60) (by decide +kernel)
def jh:Kn Tryz.prog:=⟨115,[z5,vi 37],.tup [vi 37,vb false],zCV⟩
theorem zCW:zf Tryz.prog 116 [z5,vi 36] (.tup [.agg [vi 2,vs ⟨#[120]⟩,vi 0],vi 37]):=zv (x:=xtK [kw0,kw1,kw2,kw3,kw4,kw5,kw6,kw7,kw8,kw9,yC,yD,yF,yK,yM,yS,yW,yZ,y6,qb,qh,qk,qq,qx,qG,qM,qS,q9,kh,kk,kz,kJ,kS,k9,jh]) (l:=yh) (fl:=zN) (wk:=zO) (lim:=900) (n:=60) (by decide +kernel)
def jx:Kn Tryz.prog:=⟨116,[z5,vi 36],.tup [.agg [vi 2,vs ⟨#[120]⟩,vi 0],vi 37],zCW⟩
theorem zCX:zf Tryz.prog 115 [z5,vi 36] (.tup [vi 36,vb false]):=zv (x:=xtK [kw0,kw1,kw2,kw3,kw4,kw5,kw6,kw7,kw8,kw9,yC,yD,yF,yK,yM,yS,yW,yZ,y6,qb,qh,qk,qq,qx,qG,qM,qS,q9,kh,kk,kz,kJ,kS,k9,jh,jx]) (l:=yh) (fl:=zN) (wk:=zO) (lim:=900) (n:=60) (by decide +kernel)
def jJ:Kn Tryz.prog:=⟨115,[z5,vi 36],.tup [vi 36,vb false],zCX⟩
theorem zCY:zf Tryz.prog 116 [z5,vi 35] (.tup [.agg [vi 14,vs ⟨#[]⟩,vi 0],vi 36]):=zv (x:=xtK [kw0,kw1,kw2,kw3,kw4,kw5,kw6,kw7,kw8,kw9,yC,yD,yF,yK,yM,yS,yW,yZ,y6,qb,qh,qk,qq,qx,qG,qM,qS,q9,kh,kk,kz,kJ,kS,k9,jh,jx,jJ]) (l:=yh) (fl:=zN) (wk:=zO) (lim:=900) (n:=60) (by decide +kernel)
def j6:Kn Tryz.prog:=⟨116,[z5,vi 35],.tup [.agg [vi 14,vs ⟨#[]⟩,vi 0],vi 36],zCY⟩
theorem zCZ:zf Tryz.prog 115 [z5,vi 35] (.tup [vi 35,vb false]):=zv (x:=xtK [kw0,kw1,kw2,kw3,kw4,kw5,kw6,kw7,kw8,kw9,yC,yD,yF,yK,yM,yS,yW,yZ,y6,qb,qh,qk,qq,qx,qG,qM,qS,q9,kh,kk,kz,kJ,kS,k9,jh,jx,jJ,j6]) (l:=yh) (fl:=zN) (wk:=zO) (lim:=900) (n:=60) (by decide +kernel)
def Zq:Kn Tryz.prog:=⟨115,[z5,vi 35],.tup [vi 35,vb false],zCZ⟩
def zB5:V:=.tup [.agg [vi 2,vs ⟨#[98,114,101,97,107,45,98,101,102,111,114,101]⟩,vi 0],vi 35]
theorem zC0:zf Tryz.prog 116 [z5,vi 23] (zB5):=zv (x:=xtK [kw0,kw1,kw2,kw3,kw4,kw5,kw6,kw7,kw8,kw9,yC,yD,yF,yK,yM,yS,yW,yZ,y6,qb,qh,qk,qq,qx,qG,qM,qS,q9,kh,kk,kz,kJ,kS,k9,jh,jx,jJ,j6,Zq]) (l:=yh) (fl:=zN) (wk:=zO) (lim:=900) (n:=60) (by decide +kernel)
def ZJ:Kn Tryz.prog:=⟨116,[z5,vi 23],zB5,zC0⟩
theorem zC1:zf Tryz.prog 115 [z5,vi 23] (.tup [vi 23,vb false]):=zv (x:=xtK [kw0,kw1,kw2,kw3,kw4,kw5,kw6,kw7,kw8,kw9,yC,yD,yF,yK,yM,yS,yW,yZ,y6,qb,qh,qk,qq,qx,qG,qM,qS,q9,kh,kk,kz,kJ,kS,k9,jh,jx,jJ,j6,Zq,ZJ]) (l:=yh) (fl:=zN) (wk:=zO) (lim:=900) (n:=60) (by decide +kernel)
def Z3:Kn Tryz.prog:=⟨115,[z5,vi 23],.tup [vi 23,vb false],zC1⟩
theorem zC2:zf Tryz.prog 116 [z5,vi 22] (.tup [.agg [vi 12,vs ⟨#[123]⟩,vi 0],vi 23]):=zv (x:=xtK [kw0,kw1,kw2,kw3,kw4,kw5,kw6,kw7,kw8,kw9,yC,yD,yF,yK,yM,yS,yW,yZ,y6,qb,qh,qk,qq,qx,qG,qM,qS,q9,kh,kk,kz,kJ,kS,k9,jh,jx,jJ,j6,Zq,ZJ,Z3]) (l:=yh) (fl:=zN) (wk:=zO) (lim:=900) (n:=60) (by decide +kernel)
def Yq:Kn Tryz.prog:=⟨116,[z5,vi 22],.tup [.agg [vi 12,vs ⟨#[123]⟩,vi 0],vi 23],zC2⟩
theorem zC3:zf Tryz.prog 115 [z5,vi 22] (.tup [vi 22,vb false]):=zv (x:=xtK [kw0,kw1,kw2,kw3,kw4,kw5,kw6,kw7,kw8,kw9,yC,yD,yF,yK,yM,yS,yW,yZ,y6,qb,qh,qk,qq,qx,qG,qM,qS,q9,kh,kk,kz,kJ,kS,k9,jh,jx,jJ,j6,Zq,ZJ,Z3,Yq]) (l:=yh) (fl:=zN) (wk:=zO) (lim:=900) (n:=60) (by decide +kernel)
def YP:Kn Tryz.prog:=⟨115,[z5,vi 22],.tup [vi 22,vb false],zC3⟩
theorem zC4:zf Tryz.prog 116 [z5,vi 21] (.tup [.agg [vi 2,vs ⟨#[112]⟩,vi 0],vi 22]):=zv (x:=xtK [kw0,kw1,kw2,kw3,kw4,kw5,kw6,kw7,kw8,kw9,yC,yD,yF,yK,yM,yS,yW,yZ,y6,qb,qh,qk,qq,qx,qG,qM,qS,q9,kh,kk,kz,kJ,kS,k9,jh,jx,jJ,j6,Zq,ZJ,Z3,Yq,YP]) (l:=yh) (fl:=zN) (wk:=zO) (lim:=900) (n:=60) (by decide +kernel)
def Qi:Kn Tryz.prog:=⟨116,[z5,vi 21],.tup [.agg [vi 2,vs ⟨#[112]⟩,vi 0],vi 22],zC4⟩
theorem zC5:zf Tryz.prog 115 [z5,vi 20] (.tup [vi 21,vb true]):=zv (x:=xtK [kw0,kw1,kw2,kw3,kw4,kw5,kw6,kw7,kw8,kw9,yC,yD,yF,yK,yM,yS,yW,yZ,y6,qb,qh,qk,qq,qx,qG,qM,qS,q9,kh,kk,kz,kJ,kS,k9,jh,jx,jJ,j6,Zq,ZJ,Z3,Yq,YP,Qi]) (l:=yh) (fl:=zN) (wk:=zO) (lim:=900) (n:=60) (by decide +kernel)
def Qw:Kn Tryz.prog:=⟨115,[z5,vi 20],.tup [vi 21,vb true],zC5⟩
theorem zC6:zf Tryz.prog 116 [z5,vi 19] (.tup [.agg [vi 13,vs ⟨#[125]⟩,vi 0],vi 20]):=zv (x:=xtK [kw0,kw1,kw2,kw3,kw4,kw5,kw6,kw7,kw8,kw9,yC,yD,yF,yK,yM,yS,yW,yZ,y6,qb,qh,qk,qq,qx,qG,qM,qS,q9,kh,kk,kz,kJ,kS,k9,jh,jx,jJ,j6,Zq,ZJ,Z3,Yq,YP,Qi,Qw]) (l:=yh) (fl:=zN) (wk:=zO) (lim:=900) (n:=60) (by decide +kernel)
def KF:Kn Tryz.prog:=⟨116,[z5,vi 19],.tup [.agg [vi 13,vs ⟨#[125]⟩,vi 0],vi 20],zC6⟩
theorem zC7:zf Tryz.prog 115 [z5,vi 19] (.tup [vi 19,vb false]):=zv (x:=xtK [kw0,kw1,kw2,kw3,kw4,kw5,kw6,kw7,kw8,kw9,yC,yD,yF,yK,yM,yS,yW,yZ,y6,qb,qh,qk,qq,qx,qG,qM,qS,q9,kh,kk,kz,kJ,kS,k9,jh,jx,jJ,j6,Zq,ZJ,Z3,Yq,YP,Qi,Qw,KF]) (l:=yh) (fl:=zN) (wk:=zO) (lim:=900) (n:=60) (by decide +kernel)
def K5:Kn Tryz.prog:=⟨115,[z5,vi 19],.tup [vi 19,vb false],zC7⟩
theorem zC8:zf Tryz.prog 116 [z5,vi 15] (.tup [.agg [vi 2,vs ⟨#[108,101,102,116]⟩,vi 0],vi 19]):=zv (x:=xtK [kw0,kw1,kw2,kw3,kw4,kw5,kw6,kw7,kw8,kw9,yC,yD,yF,yK,yM,yS,yW,yZ,y6,qb,qh,qk,qq,qx,qG,qM,qS,q9,kh,kk,kz,kJ,kS,k9,jh,jx,jJ,j6,Zq,ZJ,Z3,Yq,YP,Qi,Qw,KF,K5]) (l:=yh) (fl:=zN) (wk:=zO) (lim:=900) (n:=60) (by decide +kernel)
def JJ:Kn Tryz.prog:=⟨116,[z5,vi 15],.tup [.agg [vi 2,vs ⟨#[108,101,102,116]⟩,vi 0],vi 19],zC8⟩
theorem zC9:zf Tryz.prog 115 [z5,vi 15] (.tup [vi 15,vb false]):=zv (x:=xtK [kw0,kw1,kw2,kw3,kw4,kw5,kw6,kw7,kw8,kw9,yC,yD,yF,yK,yM,yS,yW,yZ,y6,qb,qh,qk,qq,qx,qG,qM,qS,q9,kh,kk,kz,kJ,kS,k9,jh,jx,jJ,j6,Zq,ZJ,Z3,Yq,YP,Qi,Qw,KF,K5,JJ]) (l:=yh) (fl:=zN) (wk:=zO) (lim:=900) (n:=60) (by decide +kernel)
def X4:Kn Tryz.prog:=⟨115,[z5,vi 15],.tup [vi 15,vb false],zC9⟩
theorem zDa:zf Tryz.prog 116 [z5,vi 14] (.tup [.agg [vi 14,vs ⟨#[]⟩,vi 0],vi 15]):=zv (x:=xtK [kw0,kw1,kw2,kw3,kw4,kw5,kw6,kw7,kw8,kw9,yC,yD,yF,yK,yM,yS,yW,yZ,y6,qb,qh,qk,qq,qx,qG,qM,qS,q9,kh,kk,kz,kJ,kS,k9,jh,jx,jJ,j6,Zq,ZJ,Z3,Yq,YP,Qi,Qw,KF,K5,JJ,X4]) (l:=yh) (fl:=zN) (wk:=zO) (lim:=900) (n:=60) (by decide +kernel)
def WW:Kn Tryz.prog:=⟨116,[z5,vi 14],.tup [.agg [vi 14,vs ⟨#[]⟩,vi 0],vi 15],zDa⟩
theorem zDb:zf Tryz.prog 115 [z5,vi 14] (.tup [vi 14,vb false]):=zv (x:=xtK [kw0,kw1,kw2,kw3,kw4,kw5,kw6,kw7,kw8,kw9,yC,yD,yF,yK,yM,yS,yW,yZ,y6,qb,qh,qk,qq,qx,qG,qM,qS,q9,kh,kk,kz,kJ,kS,k9,jh,jx,jJ,j6,Zq,ZJ,Z3,Yq,YP,Qi,Qw,KF,K5,JJ,X4,WW]) (l:=yh) (fl:=zN) (wk:=zO) (lim:=900) (n:=60) (by decide +kernel)
def zaX:Kn Tryz.prog:=⟨115,[z5,vi 14],.tup [vi 14,vb false],zDb⟩
def zB6:V:=.tup [.agg [vi 2,vs ⟨#[98,114,101,97,107,45,98,101,102,111,114,101]⟩,vi 0],vi 14]
theorem zDc:zf Tryz.prog 116 [z5,vi 2] (zB6):=zv (x:=xtK [kw0,kw1,kw2,kw3,kw4,kw5,kw6,kw7,kw8,kw9,yC,yD,yF,yK,yM,yS,yW,yZ,y6,qb,qh,qk,qq,qx,qG,qM,qS,q9,kh,kk,kz,kJ,kS,k9,jh,jx,jJ,j6,Zq,ZJ,Z3,Yq,YP,Qi,Qw,KF,K5,JJ,X4,WW,zaX]) (l:=yh) (fl:=zN) (wk:=zO) (lim:=900) (n:=60) (by decide +kernel)
def zch:Kn Tryz.prog:=⟨116,[z5,vi 2],zB6,zDc⟩
theorem zDd:zf Tryz.prog 115 [z5,vi 2] (.tup [vi 2,vb false]):=zv (x:=xtK [kw0,kw1,kw2,kw3,kw4,kw5,kw6,kw7,kw8,kw9,yC,yD,yF,yK,yM,yS,yW,yZ,y6,qb,qh,qk,qq,qx,qG,qM,qS,q9,kh,kk,kz,kJ,kS,k9,jh,jx,jJ,j6,Zq,ZJ,Z3,Yq,YP,Qi,Qw,KF,K5,JJ,X4,WW,zaX,zch]) (l:=yh) (fl:=zN) (wk:=zO) (lim:=900) (n:=60) (by decide +kernel)
def zdG:Kn Tryz.prog:=⟨115,[z5,vi 2],.tup [vi 2,vb false],zDd⟩
theorem zDe:zf Tryz.prog 116 [z5,vi 1] (.tup [.agg [vi 12,vs ⟨#[123]⟩,vi 0],vi 2]):=zv (x:=xtK [kw0,kw1,kw2,kw3,kw4,kw5,kw6,kw7,kw8,kw9,yC,yD,yF,yK,yM,yS,yW,yZ,y6,qb,qh,qk,qq,qx,qG,qM,qS,q9,kh,kk,kz,kJ,kS,k9,jh,jx,jJ,j6,Zq,ZJ,Z3,Yq,YP,Qi,Qw,KF,K5,JJ,X4,WW,zaX,zch,zdG]) (l:=yh) (fl:=zN) (wk:=zO) (lim:=900) (n:=60) (by decide +kernel)
def zfQ:Kn Tryz.prog:=⟨116,[z5,vi 1],.tup [.agg [vi 12,vs ⟨#[123]⟩,vi 0],vi 2],zDe⟩
theorem zDf:zf Tryz.prog 115 [z5,vi 1] (.tup [vi 1,vb false]):=zv (x:=xtK [kw0,kw1,kw2,kw3,kw4,kw5,kw6,kw7,kw8,kw9,yC,yD,yF,yK,yM,yS,yW,yZ,y6,qb,qh,qk,qq,qx,qG,qM,qS,q9,kh,kk,kz,kJ,kS,k9,jh,jx,jJ,j6,Zq,ZJ,Z3,Yq,YP,Qi,Qw,KF,K5,JJ,X4,WW,zaX,zch,zdG,zfQ]) (l:=yh) (fl:=zN) (wk:=zO) (lim:=900) (n:=60) (by decide +kernel)
def ziy:Kn Tryz.prog:=⟨115,[z5,vi 1],.tup [vi 1,vb false],zDf⟩
theorem zDg:zf Tryz.prog 116 [z5,vi 0] (.tup [.agg [vi 2,vs ⟨#[112]⟩,vi 0],vi 1]):=zv (x:=xtK [kw0,kw1,kw2,kw3,kw4,kw5,kw6,kw7,kw8,kw9,yC,yD,yF,yK,yM,yS,yW,yZ,y6,qb,qh,qk,qq,qx,qG,qM,qS,q9,kh,kk,kz,kJ,kS,k9,jh,jx,jJ,j6,Zq,ZJ,Z3,Yq,YP,Qi,Qw,KF,K5,JJ,X4,WW,zaX,zch,zdG,zfQ,ziy]) (l:=yh) (fl:=zN) (wk:=zO) (lim:=900) (n:=60) (by decide +kernel)
def zl4:Kn Tryz.prog:=⟨116,[z5,vi 0],.tup [.agg [vi 2,vs ⟨#[112]⟩,vi 0],vi 1],zDg⟩
theorem zDh:zf Tryz.prog 115 [z5,vi 0] (.tup [vi 0,vb false]):=zv (x:=xtK [kw0,kw1,kw2,kw3,kw4,kw5,kw6,kw7,kw8,kw9,yC,yD,yF,yK,yM,yS,yW,yZ,y6,qb,qh,qk,qq,qx,qG,qM,qS,q9,kh,kk,kz,kJ,kS,k9,jh,jx,jJ,j6,Zq,ZJ,Z3,Yq,YP,Qi,Qw,KF,K5,JJ,X4,WW,zaX,zch,zdG,zfQ,ziy,zl4]) (l:=yh) (fl:=zN) (wk:=zO) (lim:=900) (n:=60) (by decide +kernel)
def zrb:Kn Tryz.prog:=⟨115,[z5,vi 0],.tup [vi 0,vb false],zDh⟩
def zl9:V:=.slc 1 [[.c (.int .u8 112)],[.c (.int .u8 123)],[.c (.int .u8 98)],[.c (.int .u8 114)],[.c (.int .u8 101)],[.c (.int .u8 97)],[.c (.int .u8 107)],[.c (.int .u8 45)],[.c (.int .u8 98)],[.c (.int .u8 101)],[.c (.int .u8 102)],[.c (.int .u8 111)],[.c (.int .u8 114)],[.c (.int .u8 101)],[.c (.int .u8 58)],[.c (.int .u8 108)],[.c (.int .u8 101)],[.c (.int .u8 102)],[.c (.int .u8 116)],[.c (.int .u8 125)],[.c (.int .u8 32)],[.c (.int .u8 112)],[.c (.int .u8 123)],[.c (.int .u8 98)],[.c (.int .u8 114)],[.c (.int .u8 101)],[.c (.int .u8 97)],[.c (.int .u8 107)],[.c (.int .u8 45)],[.c (.int .u8 98)],[.c (.int .u8 101)],[.c (.int .u8 102)],[.c (.int .u8 111)],[.c (.int .u8 114)],[.c (.int .u8 101)],[.c (.int .u8 58)],[.c (.int .u8 120)],[.c (.int .u8 59)],[.c (.int .u8 112)],[.c (.int .u8 97)],[.c (.int .u8 103)],[.c (.int .u8 101)],[.c (.int .u8 58)],[.c (.int .u8 97)],[.c (.int .u8 125)]]
theorem zDi:zf Tryz.prog 114 [zl9] (z5):=zv (x:=xtK [kw0,kw1,kw2,kw3,kw4,kw5,kw6,kw7,kw8,kw9,yC,yD,yF,yK,yM,yS,yW,yZ,y6,qb,qh,qk,qq,qx,qG,qM,qS,q9,kh,kk,kz,kJ,kS,k9,jh,jx,jJ,j6,Zq,ZJ,Z3,Yq,YP,Qi,Qw,KF,K5,JJ,X4,WW,zaX,zch,zdG,zfQ,ziy,zl4,zrb]) (l:=yh) (fl:=zN) (wk:=zO) (lim:=900) (n:=60) (by decide +kernel)
def zwT:Kn Tryz.prog:=⟨114,[zl9],z5,zDi⟩
def zB7:V:=.tup [.slc 3 [[vi 2,vs ⟨#[112]⟩,vi 0],[vi 12,vs ⟨#[123]⟩,vi 0],[vi 2,vs ⟨#[98,114,101,97,107,45,98,101,102,111,114,101]⟩,vi 0],[vi 14,vs ⟨#[]⟩,vi 0],[vi 2,vs ⟨#[108,101,102,116]⟩,vi 0],[vi 13,vs ⟨#[125]⟩,vi 0],[vi 1,vs ⟨#[]⟩,vi 0],[vi 2,vs ⟨#[112]⟩,vi 0],[vi 12,vs ⟨#[123]⟩,vi 0],[vi 2,vs ⟨#[98,114,101,97,107,45,98,101,102,111,114,101]⟩,vi 0],[vi 14,vs ⟨#[]⟩,vi 0],[vi 2,vs ⟨#[120]⟩,vi 0],[vi 15,vs ⟨#[]⟩,vi 0],[vi 2,vs ⟨#[112,97,103,101]⟩,vi 0],[vi 14,vs ⟨#[]⟩,vi 0],[vi 2,vs ⟨#[97]⟩,vi 0],[vi 13,vs ⟨#[125]⟩,vi 0]],vi 0]
theorem zDj:zf Tryz.prog 90 [zl9] (zB7):=zv (x:=xtK [kw0,kw1,kw2,kw3,kw4,kw5,kw6,kw7,kw8,kw9,yC,yD,yF,yK,yM,yS,yW,yZ,y6,qb,qh,qk,qq,qx,qG,qM,qS,q9,kh,kk,kz,kJ,kS,k9,jh,jx,jJ,j6,Zq,ZJ,Z3,Yq,YP,Qi,Qw,KF,K5,JJ,X4,WW,zaX,zch,zdG,zfQ,ziy,zl4,zrb,zwT]) (l:=yh) (fl:=zN) (wk:=zO) (lim:=900) (n:=60) (by decide +kernel)
def zAO:Kn Tryz.prog:=⟨90,[zl9],zB7,zDj⟩
def zB8:V:=.tup [.slc 4 [[vi 1,.slc 3 [[vi 2,vs ⟨#[112]⟩,vi 0]],.slc 3 [[vs ⟨#[98,114,101,97,107,45,98,101,102,111,114,101]⟩,.slc 3 [[vi 2,vs ⟨#[108,101,102,116]⟩,vi 0]],vb false]],zz],[vi 1,.slc 3 [[vi 2,vs ⟨#[112]⟩,vi 0]],.slc 3 [[vs ⟨#[98,114,101,97,107,45,98,101,102,111,114,101]⟩,.slc 3 [[vi 2,vs ⟨#[120]⟩,vi 0]],vb false],[vs ⟨#[112,97,103,101]⟩,.slc 3 [[vi 2,vs ⟨#[97]⟩,vi 0]],vb false]],zz]],vi 0]
theorem zDk:zf Tryz.prog 56 [zl9] (zB8):=zv (x:=xtK [kw0,kw1,kw2,kw3,kw4,kw5,kw6,kw7,kw8,kw9,yC,yD,yF,yK,yM,yS,yW,yZ,y6,qb,qh,qk,qq,qx,qG,qM,qS,q9,kh,kk,kz,kJ,kS,k9,jh,jx,jJ,j6,Zq,ZJ,Z3,Yq,YP,Qi,Qw,KF,K5,JJ,X4,WW,zaX,zch,zdG,zfQ,ziy,zl4,zrb,zwT,zAO]) (l:=yh) (fl:=zN) (wk:=zO) (lim:=900) (n:=60) (by decide +kernel)
def zB0:Kn Tryz.prog:=⟨56,[zl9],zB8,zDk⟩
def zB9:V:=vs ⟨#[112,123,98,114,101,97,107,45,98,101,102,111,114,101,58,108,101,102,116,125,32,112,123,98,114,101,97,107,45,98,101,102,111,114,101,58,120,59,112,97,103,101,58,97,125]⟩
def zCa:V:=.slc 4 [[vi 1,.slc 3 [[vi 2,vs ⟨#[112]⟩,vi 0]],.slc 3 [[vs ⟨#[98,114,101,97,107,45,98,101,102,111,114,101]⟩,.slc 3 [[vi 2,vs ⟨#[108,101,102,116]⟩,vi 0]],vb false]],zz],[vi 1,.slc 3 [[vi 2,vs ⟨#[112]⟩,vi 0]],.slc 3 [[vs ⟨#[98,114,101,97,107,45,98,101,102,111,114,101]⟩,.slc 3 [[vi 2,vs ⟨#[120]⟩,vi 0]],vb false],[vs ⟨#[112,97,103,101]⟩,.slc 3 [[vi 2,vs ⟨#[97]⟩,vi 0]],vb false]],zz]]
theorem zDl:zf Tryz.prog 30 [zB9] (zCa):=zv (x:=xtK [kw0,kw1,kw2,kw3,kw4,kw5,kw6,kw7,kw8,kw9,yC,yD,yF,yK,yM,yS,yW,yZ,y6,qb,qh,qk,qq,qx,qG,qM,qS,q9,kh,kk,kz,kJ,kS,k9,jh,jx,jJ,j6,Zq,ZJ,Z3,Yq,YP,Qi,Qw,KF,K5,JJ,X4,WW,zaX,zch,zdG,zfQ,ziy,zl4,zrb,zwT,zAO,zB0]) (l:=yh) (fl:=zN) (wk:=zO) (lim:=900) (n:=60) (by decide +kernel)
def zCv:Kn Tryz.prog:=⟨30,[zB9],zCa,zDl⟩
theorem zpX:zf Tryz.prog 12 [] (vb true):=zv (x:=xtK [kw0,kw1,kw2,kw3,kw4,kw5,kw6,kw7,kw8,kw9,yC,yD,yF,yK,yM,yS,yW,yZ,y6,qb,qh,qk,qq,qx,qG,qM,qS,q9,kh,kk,kz,kJ,kS,k9,jh,jx,jJ,j6,Zq,ZJ,Z3,Yq,YP,Qi,Qw,KF,K5,JJ,X4,WW,zaX,zch,zdG,zfQ,ziy,zl4,zrb,zwT,zAO,zB0,zCv]) (l:=yh) (fl:=zN) (wk:=zO) (lim:=900) (n:=60) (by decide +kernel)
end Go.Proofs.YtjcmoedalneldaaGreat
