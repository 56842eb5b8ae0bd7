/- Part of the proof of layer-11. No condition. -/
import Derived.Test.YtjcmoedalneldaaGreatKn
import Derived.Test.YtjcmoedalneldaaGreatProg
namespace Go.Proofs.YtjcmoedalneldaaGreat
open Go.Sx
set_option maxRecDepth 100000
noncomputable def feK (k:Nat)(h:(zq Tryz.prog k).isSome=true):Fe Tryz.prog:=⟨k,(zq Tryz.prog k).get h,(Option.some_get h).symm⟩
noncomputable def yl:List (Fe Tryz.prog):=[feK 8 (by decide +kernel),feK 10 (by decide +kernel),feK 12 (by decide +kernel),feK 14 (by decide +kernel),feK 18 (by decide +kernel),feK 28 (by decide +kernel),feK 30 (by decide +kernel),feK 31 (by decide +kernel),feK 34 (by decide +kernel),feK 35 (by decide +kernel),feK 36 (by decide +kernel),feK 37 (by decide +kernel),feK 39 (by decide +kernel),feK 40 (by decide +kernel),feK 41 (by decide +kernel),feK 42 (by decide +kernel),feK 43 (by decide +kernel),feK 44 (by decide +kernel),feK 55 (by decide +kernel),feK 56 (by decide +kernel),feK 57 (by decide +kernel),feK 58 (by decide +kernel),feK 59 (by decide +kernel),feK 62 (by decide +kernel),feK 63 (by decide +kernel),feK 64 (by decide +kernel),feK 65 (by decide +kernel),feK 66 (by decide +kernel),feK 67 (by decide +kernel),feK 68 (by decide +kernel),feK 69 (by decide +kernel),feK 71 (by decide +kernel),feK 72 (by decide +kernel),feK 73 (by decide +kernel),feK 74 (by decide +kernel),feK 75 (by decide +kernel),feK 77 (by decide +kernel),feK 78 (by decide +kernel),feK 79 (by decide +kernel),feK 81 (by decide +kernel),feK 82 (by decide +kernel),feK 83 (by decide +kernel),feK 89 (by decide +kernel),feK 90 (by decide +kernel),feK 91 (by decide +kernel),feK 92 (by decide +kernel),feK 93 (by decide +kernel),feK 94 (by decide +kernel),feK 95 (by decide +kernel),feK 96 (by decide +kernel),feK 97 (by decide +kernel),feK 98 (by decide +kernel),feK 99 (by decide +kernel),feK 100 (by decide +kernel),feK 101 (by decide +kernel),feK 103 (by decide +kernel),feK 104 (by decide +kernel),feK 106 (by decide +kernel),feK 107 (by decide +kernel),feK 113 (by decide +kernel),feK 114 (by decide +kernel),feK 115 (by decide +kernel),feK 116 (by decide +kernel),feK 117 (by decide +kernel),feK 118 (by decide +kernel),feK 119 (by decide +kernel),feK 121 (by decide +kernel),feK 123 (by decide +kernel),feK 124 (by decide +kernel),feK 125 (by decide +kernel),feK 126 (by decide +kernel),feK 127 (by decide +kernel),feK 128 (by decide +kernel),feK 130 (by decide +kernel),feK 131 (by decide +kernel),feK 139 (by decide +kernel),feK 140 (by decide +kernel),feK 141 (by decide +kernel),feK 143 (by decide +kernel),feK 144 (by decide +kernel),feK 145 (by decide +kernel),feK 149 (by decide +kernel),feK 150 (by decide +kernel),feK 151 (by decide +kernel),feK 152 (by decide +kernel),feK 154 (by decide +kernel),feK 155 (by decide +kernel),feK 156 (by decide +kernel),feK 157 (by decide +kernel),feK 158 (by decide +kernel),feK 165 (by decide +kernel),feK 168 (by decide +kernel),feK 169 (by decide +kernel),feK 170 (by decide +kernel),feK 171 (by decide +kernel),feK 173 (by decide +kernel),feK 174 (by decide +kernel),feK 175 (by decide +kernel),feK 177 (by decide +kernel),feK 178 (by decide +kernel),feK 180 (by decide +kernel)]
def zP:List Nat:=[8,10,12,28,31,34,36,57,59,65,66,67,68,69,72,73,74,77,78,83,94,95,96,100,103,104,107,121,123,124,125,126,130,140,141,143,144,149,152,155,156,157,158,165,168,171,173,174,175,177,180]
def zQ:List Nat:=[39]
def lw0:V:=.agg [vi 1,.slc 3 [[vi 2,vs ⟨#[112]⟩,vi 0]],.slc 3 [[vs ⟨#[98,114,101,97,107,45,98,101,102,111,114,101]⟩,.slc 3 [[vi 2,vs ⟨#[120]⟩,vi 0]],vb false],[vs ⟨#[112,97,103,101]⟩,.slc 3 [[vi 2,vs ⟨#[97]⟩,vi 0]],vb false]],zA]
def lw1:V:=.slc 6 [[vi (-1),vs ⟨#[112]⟩,vs ⟨#[]⟩,zA,zA,vs ⟨#[]⟩]]
theorem tw0:zg Tryz.prog 35 [lw0,lw1,vi 0] (.tup [.agg [vi 0,vi 0,vi 1],vb true]):=zw (x:=xtK []) (l:=yl) (fl:=zP) (wk:=zQ) (lim:=900) (n:=60) (by decide +kernel)
def kw0:Kn Tryz.prog:=⟨35,[lw0,lw1,vi 0],.tup [.agg [vi 0,vi 0,vi 1],vb true],tw0⟩
def lw2:V:=.agg [vi 1,.slc 3 [[vi 2,vs ⟨#[112]⟩,vi 0]],.slc 3 [[vs ⟨#[98,114,101,97,107,45,98,101,102,111,114,101]⟩,.slc 3 [[vi 2,vs ⟨#[108,101,102,116]⟩,vi 0]],vb false]],zA]
theorem tw1:zg Tryz.prog 35 [lw2,lw1,vi 0] (.tup [.agg [vi 0,vi 0,vi 1],vb true]):=zw (x:=xtK [kw0]) (l:=yl) (fl:=zP) (wk:=zQ) (lim:=900) (n:=60) (by decide +kernel)
def kw1:Kn Tryz.prog:=⟨35,[lw2,lw1,vi 0],.tup [.agg [vi 0,vi 0,vi 1],vb true],tw1⟩
theorem tw2:zg Tryz.prog 34 [lw1,vi 0] (vb true):=zw (x:=xtK [kw0,kw1]) (l:=yl) (fl:=zP) (wk:=zQ) (lim:=900) (n:=60) (by decide +kernel)
def kw2:Kn Tryz.prog:=⟨34,[lw1,vi 0],vb true,tw2⟩
def lw3:V:=.slc 1 [[.slc 4 [[vi 1,.slc 3 [[vi 2,vs ⟨#[112]⟩,vi 0]],.slc 3 [[vs ⟨#[98,114,101,97,107,45,98,101,102,111,114,101]⟩,.slc 3 [[vi 2,vs ⟨#[108,101,102,116]⟩,vi 0]],vb false]],zA],[vi 1,.slc 3 [[vi 2,vs ⟨#[112]⟩,vi 0]],.slc 3 [[vs ⟨#[98,114,101,97,107,45,98,101,102,111,114,101]⟩,.slc 3 [[vi 2,vs ⟨#[120]⟩,vi 0]],vb false],[vs ⟨#[112,97,103,101]⟩,.slc 3 [[vi 2,vs ⟨#[97]⟩,vi 0]],vb false]],zA]]]]
theorem tw3:zg Tryz.prog 14 [lw3,lw1,vi 0,vi 7] (.tup [.agg [vi 0,vi 0,vi 0,vi 0,vi 0],zA,vb false]):=zw (x:=xtK [kw0,kw1,kw2]) (l:=yl) (fl:=zP) (wk:=zQ) (lim:=900) (n:=60) (by decide +kernel)
def kw3:Kn Tryz.prog:=⟨14,[lw3,lw1,vi 0,vi 7],.tup [.agg [vi 0,vi 0,vi 0,vi 0,vi 0],zA,vb false],tw3⟩
theorem tw4:zg Tryz.prog 14 [lw3,lw1,vi 0,vi 6] (.tup [.agg [vi 0,vi 0,vi 0,vi 0,vi 0],zA,vb false]):=zw (x:=xtK [kw0,kw1,kw2,kw3]) (l:=yl) (fl:=zP) (wk:=zQ) (lim:=900) (n:=60) (by decide +kernel)
def kw4:Kn Tryz.prog:=⟨14,[lw3,lw1,vi 0,vi 6],.tup [.agg [vi 0,vi 0,vi 0,vi 0,vi 0],zA,vb false],tw4⟩
theorem tw5:zg Tryz.prog 14 [lw3,lw1,vi 0,vi 5] (.tup [.agg [vi 0,vi 0,vi 0,vi 0,vi 0],zA,vb false]):=zw (x:=xtK [kw0,kw1,kw2,kw3,kw4]) (l:=yl) (fl:=zP) (wk:=zQ) (lim:=900) (n:=60) (by decide +kernel)
def kw5:Kn Tryz.prog:=⟨14,[lw3,lw1,vi 0,vi 5],.tup [.agg [vi 0,vi 0,vi 0,vi 0,vi 0],zA,vb false],tw5⟩
theorem tw6:zg Tryz.prog 14 [lw3,lw1,vi 0,vi 4] (.tup [.agg [vi 0,vi 0,vi 0,vi 0,vi 0],zA,vb false]):=zw (x:=xtK [kw0,kw1,kw2,kw3,kw4,kw5]) (l:=yl) (fl:=zP) (wk:=zQ) (lim:=900) (n:=60) (by decide +kernel)
def kw6:Kn Tryz.prog:=⟨14,[lw3,lw1,vi 0,vi 4],.tup [.agg [vi 0,vi 0,vi 0,vi 0,vi 0],zA,vb false],tw6⟩
theorem tw7:zg Tryz.prog 14 [lw3,lw1,vi 0,vi 3] (.tup [.agg [vi 0,vi 0,vi 0,vi 0,vi 0],zA,vb false]):=zw (x:=xtK [kw0,kw1,kw2,kw3,kw4,kw5,kw6]) (l:=yl) (fl:=zP) (wk:=zQ) (lim:=900) (n:=60) (by decide +kernel)
def kw7:Kn Tryz.prog:=⟨14,[lw3,lw1,vi 0,vi 3],.tup [.agg [vi 0,vi 0,vi 0,vi 0,vi 0],zA,vb false],tw7⟩
def lw4:V:=.tup [.agg [vi 0,vi 0,vi 0,vi 1,vi 2],.slc 3 [[vi 2,vs ⟨#[97]⟩,vi 0]],vb true]
theorem tw8:zg Tryz.prog 14 [lw3,lw1,vi 0,vi 2] (lw4):=zw (x:=xtK [kw0,kw1,kw2,kw3,kw4,kw5,kw6,kw7]) (l:=yl) (fl:=zP) (wk:=zQ) (lim:=900) (n:=60) (by decide +kernel)
def kw8:Kn Tryz.prog:=⟨14,[lw3,lw1,vi 0,vi 2],lw4,tw8⟩
theorem tw9:zg Tryz.prog 14 [lw3,lw1,vi 0,vi 1] (.tup [.agg [vi 0,vi 0,vi 0,vi 0,vi 0],zA,vb false]):=zw (x:=xtK [kw0,kw1,kw2,kw3,kw4,kw5,kw6,kw7,kw8]) (l:=yl) (fl:=zP) (wk:=zQ) (lim:=900) (n:=60) (by decide +kernel)
def kw9:Kn Tryz.prog:=⟨14,[lw3,lw1,vi 0,vi 1],.tup [.agg [vi 0,vi 0,vi 0,vi 0,vi 0],zA,vb false],tw9⟩
def lw5:V:=.tup [.agg [vi 0,vi 0,vi 0,vi 1,vi 0],.slc 3 [[vi 2,vs ⟨#[108,101,102,116]⟩,vi 0]],vb true]
theorem zDp:zg Tryz.prog 14 [lw3,lw1,vi 0,vi 0] (lw5):=zw (x:=xtK [kw0,kw1,kw2,kw3,kw4,kw5,kw6,kw7,kw8,kw9]) (l:=yl) (fl:=zP) (wk:=zQ) (lim:=900) (n:=60) (by decide +kernel)
def yF:Kn Tryz.prog:=⟨14,[lw3,lw1,vi 0,vi 0],lw5,zDp⟩
theorem zDq:zg Tryz.prog 81 [.slc 3 [[vi 2,vs ⟨#[112]⟩,vi 0]]] (.tup [.slc 1 [[vi (-1)]],vi 0]):=zw (x:=xtK [kw0,kw1,kw2,kw3,kw4,kw5,kw6,kw7,kw8,kw9,yF]) (l:=yl) (fl:=zP) (wk:=zQ) (lim:=900) (n:=60) (by decide +kernel)
def yG:Kn Tryz.prog:=⟨81,[.slc 3 [[vi 2,vs ⟨#[112]⟩,vi 0]]],.tup [.slc 1 [[vi (-1)]],vi 0],zDq⟩
theorem zDr:zg Tryz.prog 94 [.slc 3 [[vi 2,vs ⟨#[112]⟩,vi 0]]] (vb true):=zw (x:=xtK [kw0,kw1,kw2,kw3,kw4,kw5,kw6,kw7,kw8,kw9,yF,yG]) (l:=yl) (fl:=zP) (wk:=zQ) (lim:=900) (n:=60) (by decide +kernel)
def yI:Kn Tryz.prog:=⟨94,[.slc 3 [[vi 2,vs ⟨#[112]⟩,vi 0]]],vb true,zDr⟩
theorem zDs:zg Tryz.prog 81 [.slc 3 [[vi 2,vs ⟨#[97]⟩,vi 0]]] (.tup [.slc 1 [[vi (-1)]],vi 0]):=zw (x:=xtK [kw0,kw1,kw2,kw3,kw4,kw5,kw6,kw7,kw8,kw9,yF,yG,yI]) (l:=yl) (fl:=zP) (wk:=zQ) (lim:=900) (n:=60) (by decide +kernel)
def yM:Kn Tryz.prog:=⟨81,[.slc 3 [[vi 2,vs ⟨#[97]⟩,vi 0]]],.tup [.slc 1 [[vi (-1)]],vi 0],zDs⟩
theorem zDt:zg Tryz.prog 94 [.slc 3 [[vi 2,vs ⟨#[97]⟩,vi 0]]] (vb true):=zw (x:=xtK [kw0,kw1,kw2,kw3,kw4,kw5,kw6,kw7,kw8,kw9,yF,yG,yI,yM]) (l:=yl) (fl:=zP) (wk:=zQ) (lim:=900) (n:=60) (by decide +kernel)
def yO:Kn Tryz.prog:=⟨94,[.slc 3 [[vi 2,vs ⟨#[97]⟩,vi 0]]],vb true,zDt⟩
def lw6:V:=.slc 3 [[vi 2,vs ⟨#[112]⟩,vi 0],[vi 12,vs ⟨#[123]⟩,vi 0],[vi 2,vs ⟨#[98,114,101,97,107,45,98,101,102,111,114,101]⟩,vi 0],[vi 14,vs ⟨#[]⟩,vi 0],[vi 2,vs ⟨#[108,101,102,116]⟩,vi 0],[vi 13,vs ⟨#[125]⟩,vi 0],[vi 1,vs ⟨#[]⟩,vi 0],[vi 2,vs ⟨#[112]⟩,vi 0],[vi 12,vs ⟨#[123]⟩,vi 0],[vi 2,vs ⟨#[98,114,101,97,107,45,98,101,102,111,114,101]⟩,vi 0],[vi 14,vs ⟨#[]⟩,vi 0],[vi 2,vs ⟨#[120]⟩,vi 0],[vi 15,vs ⟨#[]⟩,vi 0],[vi 2,vs ⟨#[112,97,103,101]⟩,vi 0],[vi 14,vs ⟨#[]⟩,vi 0],[vi 2,vs ⟨#[97]⟩,vi 0],[vi 13,vs ⟨#[125]⟩,vi 0]]
def lw7:V:=.tup [.agg [vs ⟨#[112,97,103,101]⟩,.slc 3 [[vi 2,vs ⟨#[97]⟩,vi 0]],vb false],vb true]
theorem zDu:zg Tryz.prog 119 [lw6,vi 13,vi 16] (lw7):=zw (x:=xtK [kw0,kw1,kw2,kw3,kw4,kw5,kw6,kw7,kw8,kw9,yF,yG,yI,yM,yO]) (l:=yl) (fl:=zP) (wk:=zQ) (lim:=900) (n:=60) (by decide +kernel)
def yV:Kn Tryz.prog:=⟨119,[lw6,vi 13,vi 16],lw7,zDu⟩
theorem zDv:zg Tryz.prog 81 [.slc 3 [[vi 2,vs ⟨#[120]⟩,vi 0]]] (.tup [.slc 1 [[vi (-1)]],vi 0]):=zw (x:=xtK [kw0,kw1,kw2,kw3,kw4,kw5,kw6,kw7,kw8,kw9,yF,yG,yI,yM,yO,yV]) (l:=yl) (fl:=zP) (wk:=zQ) (lim:=900) (n:=60) (by decide +kernel)
def yY:Kn Tryz.prog:=⟨81,[.slc 3 [[vi 2,vs ⟨#[120]⟩,vi 0]]],.tup [.slc 1 [[vi (-1)]],vi 0],zDv⟩
theorem zDw:zg Tryz.prog 94 [.slc 3 [[vi 2,vs ⟨#[120]⟩,vi 0]]] (vb true):=zw (x:=xtK [kw0,kw1,kw2,kw3,kw4,kw5,kw6,kw7,kw8,kw9,yF,yG,yI,yM,yO,yV,yY]) (l:=yl) (fl:=zP) (wk:=zQ) (lim:=900) (n:=60) (by decide +kernel)
def y7:Kn Tryz.prog:=⟨94,[.slc 3 [[vi 2,vs ⟨#[120]⟩,vi 0]]],vb true,zDw⟩
def lw8:V:=.tup [.agg [vs ⟨#[98,114,101,97,107,45,98,101,102,111,114,101]⟩,.slc 3 [[vi 2,vs ⟨#[120]⟩,vi 0]],vb false],vb true]
theorem zDx:zg Tryz.prog 119 [lw6,vi 9,vi 12] (lw8):=zw (x:=xtK [kw0,kw1,kw2,kw3,kw4,kw5,kw6,kw7,kw8,kw9,yF,yG,yI,yM,yO,yV,yY,y7]) (l:=yl) (fl:=zP) (wk:=zQ) (lim:=900) (n:=60) (by decide +kernel)
def qc:Kn Tryz.prog:=⟨119,[lw6,vi 9,vi 12],lw8,zDx⟩
def lw9:V:=.slc 1 [[vi (-1)],[vi 5],[vi (-1)],[vi (-1)],[vi (-1)],[vi (-1)],[vi (-1)],[vi (-1)],[vi 16],[vi (-1)],[vi (-1)],[vi (-1)],[vi (-1)],[vi (-1)],[vi (-1)],[vi (-1)],[vi (-1)]]
def zCO:V:=.tup [.slc 3 [[vs ⟨#[98,114,101,97,107,45,98,101,102,111,114,101]⟩,.slc 3 [[vi 2,vs ⟨#[120]⟩,vi 0]],vb false],[vs ⟨#[112,97,103,101]⟩,.slc 3 [[vi 2,vs ⟨#[97]⟩,vi 0]],vb false]],zA]
theorem zDy:zg Tryz.prog 93 [lw6,lw9,vi 9,vi 16,vb false] (zCO):=zw (x:=xtK [kw0,kw1,kw2,kw3,kw4,kw5,kw6,kw7,kw8,kw9,yF,yG,yI,yM,yO,yV,yY,y7,qc]) (l:=yl) (fl:=zP) (wk:=zQ) (lim:=900) (n:=60) (by decide +kernel)
def qh:Kn Tryz.prog:=⟨93,[lw6,lw9,vi 9,vi 16,vb false],zCO,zDy⟩
theorem zDz:zg Tryz.prog 81 [.slc 3 [[vi 2,vs ⟨#[108,101,102,116]⟩,vi 0]]] (.tup [.slc 1 [[vi (-1)]],vi 0]):=zw (x:=xtK [kw0,kw1,kw2,kw3,kw4,kw5,kw6,kw7,kw8,kw9,yF,yG,yI,yM,yO,yV,yY,y7,qc,qh]) (l:=yl) (fl:=zP) (wk:=zQ) (lim:=900) (n:=60) (by decide +kernel)
def qn:Kn Tryz.prog:=⟨81,[.slc 3 [[vi 2,vs ⟨#[108,101,102,116]⟩,vi 0]]],.tup [.slc 1 [[vi (-1)]],vi 0],zDz⟩
theorem zDA:zg Tryz.prog 94 [.slc 3 [[vi 2,vs ⟨#[108,101,102,116]⟩,vi 0]]] (vb true):=zw (x:=xtK [kw0,kw1,kw2,kw3,kw4,kw5,kw6,kw7,kw8,kw9,yF,yG,yI,yM,yO,yV,yY,y7,qc,qh,qn]) (l:=yl) (fl:=zP) (wk:=zQ) (lim:=900) (n:=60) (by decide +kernel)
def qr:Kn Tryz.prog:=⟨94,[.slc 3 [[vi 2,vs ⟨#[108,101,102,116]⟩,vi 0]]],vb true,zDA⟩
def zCP:V:=.tup [.agg [vs ⟨#[98,114,101,97,107,45,98,101,102,111,114,101]⟩,.slc 3 [[vi 2,vs ⟨#[108,101,102,116]⟩,vi 0]],vb false],vb true]
theorem zDB:zg Tryz.prog 119 [lw6,vi 2,vi 5] (zCP):=zw (x:=xtK [kw0,kw1,kw2,kw3,kw4,kw5,kw6,kw7,kw8,kw9,yF,yG,yI,yM,yO,yV,yY,y7,qc,qh,qn,qr]) (l:=yl) (fl:=zP) (wk:=zQ) (lim:=900) (n:=60) (by decide +kernel)
def qz:Kn Tryz.prog:=⟨119,[lw6,vi 2,vi 5],zCP,zDB⟩
def zCQ:V:=.tup [.slc 3 [[vs ⟨#[98,114,101,97,107,45,98,101,102,111,114,101]⟩,.slc 3 [[vi 2,vs ⟨#[108,101,102,116]⟩,vi 0]],vb false]],zA]
theorem zDC:zg Tryz.prog 93 [lw6,lw9,vi 2,vi 5,vb false] (zCQ):=zw (x:=xtK [kw0,kw1,kw2,kw3,kw4,kw5,kw6,kw7,kw8,kw9,yF,yG,yI,yM,yO,yV,yY,y7,qc,qh,qn,qr,qz]) (l:=yl) (fl:=zP) (wk:=zQ) (lim:=900) (n:=60) (by decide +kernel)
def qE:Kn Tryz.prog:=⟨93,[lw6,lw9,vi 2,vi 5,vb false],zCQ,zDC⟩
def zCR:V:=.tup [.slc 1 [[vi (-1)],[vi 5],[vi (-1)],[vi (-1)],[vi (-1)],[vi (-1)],[vi (-1)],[vi (-1)],[vi 16],[vi (-1)],[vi (-1)],[vi (-1)],[vi (-1)],[vi (-1)],[vi (-1)],[vi (-1)],[vi (-1)]],vi 0]
theorem zDD:zg Tryz.prog 81 [lw6] (zCR):=zw (x:=xtK [kw0,kw1,kw2,kw3,kw4,kw5,kw6,kw7,kw8,kw9,yF,yG,yI,yM,yO,yV,yY,y7,qc,qh,qn,qr,qz,qE]) (l:=yl) (fl:=zP) (wk:=zQ) (lim:=900) (n:=60) (by decide +kernel)
def qN:Kn Tryz.prog:=⟨81,[lw6],zCR,zDD⟩
def z8:V:=.slc 1 [[vi 112],[vi 123],[vi 98],[vi 114],[vi 101],[vi 97],[vi 107],[vi 45],[vi 98],[vi 101],[vi 102],[vi 111],[vi 114],[vi 101],[vi 58],[vi 108],[vi 101],[vi 102],[vi 116],[vi 125],[vi 32],[vi 112],[vi 123],[vi 98],[vi 114],[vi 101],[vi 97],[vi 107],[vi 45],[vi 98],[vi 101],[vi 102],[vi 111],[vi 114],[vi 101],[vi 58],[vi 120],[vi 59],[vi 112],[vi 97],[vi 103],[vi 101],[vi 58],[vi 97],[vi 125]]
theorem zDE:zg Tryz.prog 116 [z8,vi 44] (.tup [.agg [vi 13,vs ⟨#[125]⟩,vi 0],vi 45]):=zw (x:=xtK [kw0,kw1,kw2,kw3,kw4,kw5,kw6,kw7,kw8,kw9,yF,yG,yI,yM,yO,yV,yY,y7,qc,qh,qn,qr,qz,qE,qN]) (l:=yl) (fl:=zP) (wk:=zQ) (lim:=900) (n:=60) (by decide +kernel)
def qU:Kn Tryz.prog:=⟨116,[z8,vi 44],.tup [.agg [vi 13,vs ⟨#[125]⟩,vi 0],vi 45],zDE⟩
theorem zDF:zg Tryz.prog 115 [z8,vi 44] (.tup [vi 44,vb false]):=zw (x:=xtK [kw0,kw1,kw2,kw3,kw4,kw5,kw6,kw7,kw8,kw9,yF,yG,yI,yM,yO,yV,yY,y7,qc,qh,qn,qr,qz,qE,qN,qU]) (l:=yl) (fl:=zP) (wk:=zQ) (lim:=900) (n:=60) (by decide +kernel)
def q9:Kn Tryz.prog:=⟨115,[z8,vi 44],.tup [vi 44,vb false],zDF⟩
theorem zDG:zg Tryz.prog 116 [z8,vi 43] (.tup [.agg [vi 2,vs ⟨#[97]⟩,vi 0],vi 44]):=zw (x:=xtK [kw0,kw1,kw2,kw3,kw4,kw5,kw6,kw7,kw8,kw9,yF,yG,yI,yM,yO,yV,yY,y7,qc,qh,qn,qr,qz,qE,qN,qU,q9]) (l:=yl) (fl:=zP) (wk:=zQ) (lim:=900) (n:=60) (by decide +kernel)
def kk:Kn Tryz.prog:=⟨116,[z8,vi 43],.tup [.agg [vi 2,vs ⟨#[97]⟩,vi 0],vi 44],zDG⟩
theorem zDH:zg Tryz.prog 115 [z8,vi 43] (.tup [vi 43,vb false]):=zw (x:=xtK [kw0,kw1,kw2,kw3,kw4,kw5,kw6,kw7,kw8,kw9,yF,yG,yI,yM,yO,yV,yY,y7,qc,qh,qn,qr,qz,qE,qN,qU,q9,kk]) (l:=yl) (fl:=zP) (wk:=zQ) (lim:=900) (n:=60) (by decide +kernel)
def ku:Kn Tryz.prog:=⟨115,[z8,vi 43],.tup [vi 43,vb false],zDH⟩
theorem zDI:zg Tryz.prog 116 [z8,vi 42] (.tup [.agg [vi 14,vs ⟨#[]⟩,vi 0],vi 43]):=zw (x:=xtK [kw0,kw1,kw2,kw3,kw4,kw5,kw6,kw7,kw8,kw9,yF,yG,yI,yM,yO,yV,yY,y7,qc,qh,qn,qr,qz,qE,qN,qU,q9,kk,ku]) (l:=yl) (fl:=zP) (wk:=zQ) (lim:=900) (n:=60) (by decide +kernel)
def ky:Kn Tryz.prog:=⟨116,[z8,vi 42],.tup [.agg [vi 14,vs ⟨#[]⟩,vi 0],vi 43],zDI⟩
theorem zDJ:zg Tryz.prog 115 [z8,vi 42] (.tup [vi 42,vb false]):=zw (x:=xtK [kw0,kw1,kw2,kw3,kw4,kw5,kw6,kw7,kw8,kw9,yF,yG,yI,yM,yO,yV,yY,y7,qc,qh,qn,qr,qz,qE,qN,qU,q9,kk,ku,ky]) (l:=yl) (fl:=zP) (wk:=zQ) (lim:=900) (n:=60) (by decide +kernel)
def kF:Kn Tryz.prog:=⟨115,[z8,vi 42],.tup [vi 42,vb false],zDJ⟩
theorem zDK:zg Tryz.prog 116 [z8,vi 38] (.tup [.agg [vi 2,vs ⟨#[112,97,103,101]⟩,vi 0],vi 42]):=zw (x:=xtK [kw0,kw1,kw2,kw3,kw4,kw5,kw6,kw7,kw8,kw9,yF,yG,yI,yM,yO,yV,yY,y7,qc,qh,qn,qr,qz,qE,qN,qU,q9,kk,ku,ky,kF]) (l:=yl) (fl:=zP) (wk:=zQ) (lim:=900) (n:=60) (by decide +kernel)
def kP:Kn Tryz.prog:=⟨116,[z8,vi 38],.tup [.agg [vi 2,vs ⟨#[112,97,103,101]⟩,vi 0],vi 42],zDK⟩
theorem zDL:zg Tryz.prog 115 [z8,vi 38] (.tup [vi 38,vb false]):=zw (x:=xtK [kw0,kw1,kw2,kw3,kw4,kw5,kw6,kw7,kw8,kw9,yF,yG,yI,yM,yO,yV,yY,y7,qc,qh,qn,qr,qz,qE,qN,qU,q9,kk,ku,ky,kF,kP]) (l:=yl) (fl:=zP) (wk:=zQ) (lim:=900) (n:=60) (by decide +kernel)
def kY:Kn Tryz.prog:=⟨115,[z8,vi 38],.tup [vi 38,vb false],zDL⟩
theorem zDM:zg Tryz.prog 116 [z8,vi 37] (.tup [.agg [vi 15,vs ⟨#[]⟩,vi 0],vi 38]):=zw (x:=xtK [kw0,kw1,kw2,kw3,kw4,kw5,kw6,kw7,kw8,kw9,yF,yG,yI,yM,yO,yV,yY,y7,qc,qh,qn,qr,qz,qE,qN,qU,q9,kk,ku,ky,kF,kP,kY]) (l:=yl) (fl:=zP) (wk:=zQ) (lim:=900) (n:=60) (by decide +kernel)
def je:Kn Tryz.prog:=⟨116,[z8,vi 37],.tup [.agg [vi 15,vs ⟨#[]⟩,vi 0],vi 38],zDM⟩
theorem zDN:zg Tryz.prog 115 [z8,vi 37] (.tup [vi 37,vb false]):=zw (x:=xtK [kw0,kw1,kw2,kw3,kw4,kw5,kw6,kw7,kw8,kw9,yF,yG,yI,yM,yO,yV,yY,y7,qc,qh,qn,qr,qz,qE,qN,qU,q9,kk,ku,ky,kF,kP,kY,je]) (l:=yl) (fl:=zP) (wk:=zQ) (lim:=900) (n:=60) (by decide +kernel)
def jm:Kn Tryz.prog:=⟨115,[z8,vi 37],.tup [vi 37,vb false],zDN⟩
theorem zDO:zg Tryz.prog 116 [z8,vi 36] (.tup [.agg [vi 2,vs ⟨#[120]⟩,vi 0],vi 37]):=zw (x:=xtK [kw0,kw1,kw2,kw3,kw4,kw5,kw6,kw7,kw8,kw9,yF,yG,yI,yM,yO,yV,yY,y7,qc,qh,qn,qr,qz,qE,qN,qU,q9,kk,ku,ky,kF,kP,kY,je,jm]) (l:=yl) (fl:=zP) (wk:=zQ) (lim:=900) (n:=60) (by decide +kernel)
def jD:Kn Tryz.prog:=⟨116,[z8,vi 36],.tup [.agg [vi 2,vs ⟨#[120]⟩,vi 0],vi 37],zDO⟩
theorem zDP:zg Tryz.prog 115 [z8,vi 36] (.tup [vi 36,vb false]):=zw (x:=xtK [kw0,kw1,kw2,kw3,kw4,kw5,kw6,kw7,kw8,kw9,yF,yG,yI,yM,yO,yV,yY,y7,qc,qh,qn,qr,qz,qE,qN,qU,q9,kk,ku,ky,kF,kP,kY,je,jm,jD]) (l:=yl) (fl:=zP) (wk:=zQ) (lim:=900) (n:=60) (by decide +kernel)
def jR:Kn Tryz.prog:=⟨115,[z8,vi 36],.tup [vi 36,vb false],zDP⟩
theorem zDQ:zg Tryz.prog 116 [z8,vi 35] (.tup [.agg [vi 14,vs ⟨#[]⟩,vi 0],vi 36]):=zw (x:=xtK [kw0,kw1,kw2,kw3,kw4,kw5,kw6,kw7,kw8,kw9,yF,yG,yI,yM,yO,yV,yY,y7,qc,qh,qn,qr,qz,qE,qN,qU,q9,kk,ku,ky,kF,kP,kY,je,jm,jD,jR]) (l:=yl) (fl:=zP) (wk:=zQ) (lim:=900) (n:=60) (by decide +kernel)
def Zd:Kn Tryz.prog:=⟨116,[z8,vi 35],.tup [.agg [vi 14,vs ⟨#[]⟩,vi 0],vi 36],zDQ⟩
theorem zDR:zg Tryz.prog 115 [z8,vi 35] (.tup [vi 35,vb false]):=zw (x:=xtK [kw0,kw1,kw2,kw3,kw4,kw5,kw6,kw7,kw8,kw9,yF,yG,yI,yM,yO,yV,yY,y7,qc,qh,qn,qr,qz,qE,qN,qU,q9,kk,ku,ky,kF,kP,kY,je,jm,jD,jR,Zd]) (l:=yl) (fl:=zP) (wk:=zQ) (lim:=900) (n:=60) (by decide +kernel)
def Zx:Kn Tryz.prog:=⟨115,[z8,vi 35],.tup [vi 35,vb false],zDR⟩
def zCS:V:=.tup [.agg [vi 2,vs ⟨#[98,114,101,97,107,45,98,101,102,111,114,101]⟩,vi 0],vi 35]
theorem zDS:zg Tryz.prog 116 [z8,vi 23] (zCS):=zw (x:=xtK [kw0,kw1,kw2,kw3,kw4,kw5,kw6,kw7,kw8,kw9,yF,yG,yI,yM,yO,yV,yY,y7,qc,qh,qn,qr,qz,qE,qN,qU,q9,kk,ku,ky,kF,kP,kY,je,jm,jD,jR,Zd,Zx]) (l:=yl) (fl:=zP) (wk:=zQ) (lim:=900) (n:=60) (by decide +kernel)
def ZR:Kn Tryz.prog:=⟨116,[z8,vi 23],zCS,zDS⟩
theorem zDT:zg Tryz.prog 115 [z8,vi 23] (.tup [vi 23,vb false]):=zw (x:=xtK [kw0,kw1,kw2,kw3,kw4,kw5,kw6,kw7,kw8,kw9,yF,yG,yI,yM,yO,yV,yY,y7,qc,qh,qn,qr,qz,qE,qN,qU,q9,kk,ku,ky,kF,kP,kY,je,jm,jD,jR,Zd,Zx,ZR]) (l:=yl) (fl:=zP) (wk:=zQ) (lim:=900) (n:=60) (by decide +kernel)
def Yb:Kn Tryz.prog:=⟨115,[z8,vi 23],.tup [vi 23,vb false],zDT⟩
theorem zDU:zg Tryz.prog 116 [z8,vi 22] (.tup [.agg [vi 12,vs ⟨#[123]⟩,vi 0],vi 23]):=zw (x:=xtK [kw0,kw1,kw2,kw3,kw4,kw5,kw6,kw7,kw8,kw9,yF,yG,yI,yM,yO,yV,yY,y7,qc,qh,qn,qr,qz,qE,qN,qU,q9,kk,ku,ky,kF,kP,kY,je,jm,jD,jR,Zd,Zx,ZR,Yb]) (l:=yl) (fl:=zP) (wk:=zQ) (lim:=900) (n:=60) (by decide +kernel)
def Yx:Kn Tryz.prog:=⟨116,[z8,vi 22],.tup [.agg [vi 12,vs ⟨#[123]⟩,vi 0],vi 23],zDU⟩
theorem zDV:zg Tryz.prog 115 [z8,vi 22] (.tup [vi 22,vb false]):=zw (x:=xtK [kw0,kw1,kw2,kw3,kw4,kw5,kw6,kw7,kw8,kw9,yF,yG,yI,yM,yO,yV,yY,y7,qc,qh,qn,qr,qz,qE,qN,qU,q9,kk,ku,ky,kF,kP,kY,je,jm,jD,jR,Zd,Zx,ZR,Yb,Yx]) (l:=yl) (fl:=zP) (wk:=zQ) (lim:=900) (n:=60) (by decide +kernel)
def YY:Kn Tryz.prog:=⟨115,[z8,vi 22],.tup [vi 22,vb false],zDV⟩
theorem zDW:zg Tryz.prog 116 [z8,vi 21] (.tup [.agg [vi 2,vs ⟨#[112]⟩,vi 0],vi 22]):=zw (x:=xtK [kw0,kw1,kw2,kw3,kw4,kw5,kw6,kw7,kw8,kw9,yF,yG,yI,yM,yO,yV,yY,y7,qc,qh,qn,qr,qz,qE,qN,qU,q9,kk,ku,ky,kF,kP,kY,je,jm,jD,jR,Zd,Zx,ZR,Yb,Yx,YY]) (l:=yl) (fl:=zP) (wk:=zQ) (lim:=900) (n:=60) (by decide +kernel)
def Qr:Kn Tryz.prog:=⟨116,[z8,vi 21],.tup [.agg [vi 2,vs ⟨#[112]⟩,vi 0],vi 22],zDW⟩
theorem zDX:zg Tryz.prog 115 [z8,vi 20] (.tup [vi 21,vb true]):=zw (x:=xtK [kw0,kw1,kw2,kw3,kw4,kw5,kw6,kw7,kw8,kw9,yF,yG,yI,yM,yO,yV,yY,y7,qc,qh,qn,qr,qz,qE,qN,qU,q9,kk,ku,ky,kF,kP,kY,je,jm,jD,jR,Zd,Zx,ZR,Yb,Yx,YY,Qr]) (l:=yl) (fl:=zP) (wk:=zQ) (lim:=900) (n:=60) (by decide +kernel)
def QG:Kn Tryz.prog:=⟨115,[z8,vi 20],.tup [vi 21,vb true],zDX⟩
theorem zDY:zg Tryz.prog 116 [z8,vi 19] (.tup [.agg [vi 13,vs ⟨#[125]⟩,vi 0],vi 20]):=zw (x:=xtK [kw0,kw1,kw2,kw3,kw4,kw5,kw6,kw7,kw8,kw9,yF,yG,yI,yM,yO,yV,yY,y7,qc,qh,qn,qr,qz,qE,qN,qU,q9,kk,ku,ky,kF,kP,kY,je,jm,jD,jR,Zd,Zx,ZR,Yb,Yx,YY,Qr,QG]) (l:=yl) (fl:=zP) (wk:=zQ) (lim:=900) (n:=60) (by decide +kernel)
def KS:Kn Tryz.prog:=⟨116,[z8,vi 19],.tup [.agg [vi 13,vs ⟨#[125]⟩,vi 0],vi 20],zDY⟩
theorem zDZ:zg Tryz.prog 115 [z8,vi 19] (.tup [vi 19,vb false]):=zw (x:=xtK [kw0,kw1,kw2,kw3,kw4,kw5,kw6,kw7,kw8,kw9,yF,yG,yI,yM,yO,yV,yY,y7,qc,qh,qn,qr,qz,qE,qN,qU,q9,kk,ku,ky,kF,kP,kY,je,jm,jD,jR,Zd,Zx,ZR,Yb,Yx,YY,Qr,QG,KS]) (l:=yl) (fl:=zP) (wk:=zQ) (lim:=900) (n:=60) (by decide +kernel)
def Jn:Kn Tryz.prog:=⟨115,[z8,vi 19],.tup [vi 19,vb false],zDZ⟩
theorem zD0:zg Tryz.prog 116 [z8,vi 15] (.tup [.agg [vi 2,vs ⟨#[108,101,102,116]⟩,vi 0],vi 19]):=zw (x:=xtK [kw0,kw1,kw2,kw3,kw4,kw5,kw6,kw7,kw8,kw9,yF,yG,yI,yM,yO,yV,yY,y7,qc,qh,qn,qr,qz,qE,qN,qU,q9,kk,ku,ky,kF,kP,kY,je,jm,jD,jR,Zd,Zx,ZR,Yb,Yx,YY,Qr,QG,KS,Jn]) (l:=yl) (fl:=zP) (wk:=zQ) (lim:=900) (n:=60) (by decide +kernel)
def J7:Kn Tryz.prog:=⟨116,[z8,vi 15],.tup [.agg [vi 2,vs ⟨#[108,101,102,116]⟩,vi 0],vi 19],zD0⟩
theorem zD1:zg Tryz.prog 115 [z8,vi 15] (.tup [vi 15,vb false]):=zw (x:=xtK [kw0,kw1,kw2,kw3,kw4,kw5,kw6,kw7,kw8,kw9,yF,yG,yI,yM,yO,yV,yY,y7,qc,qh,qn,qr,qz,qE,qN,qU,q9,kk,ku,ky,kF,kP,kY,je,jm,jD,jR,Zd,Zx,ZR,Yb,Yx,YY,Qr,QG,KS,Jn,J7]) (l:=yl) (fl:=zP) (wk:=zQ) (lim:=900) (n:=60) (by decide +kernel)
def Wk:Kn Tryz.prog:=⟨115,[z8,vi 15],.tup [vi 15,vb false],zD1⟩
theorem zD2:zg Tryz.prog 116 [z8,vi 14] (.tup [.agg [vi 14,vs ⟨#[]⟩,vi 0],vi 15]):=zw (x:=xtK [kw0,kw1,kw2,kw3,kw4,kw5,kw6,kw7,kw8,kw9,yF,yG,yI,yM,yO,yV,yY,y7,qc,qh,qn,qr,qz,qE,qN,qU,q9,kk,ku,ky,kF,kP,kY,je,jm,jD,jR,Zd,Zx,ZR,Yb,Yx,YY,Qr,QG,KS,Jn,J7,Wk]) (l:=yl) (fl:=zP) (wk:=zQ) (lim:=900) (n:=60) (by decide +kernel)
def zak:Kn Tryz.prog:=⟨116,[z8,vi 14],.tup [.agg [vi 14,vs ⟨#[]⟩,vi 0],vi 15],zD2⟩
theorem zD3:zg Tryz.prog 115 [z8,vi 14] (.tup [vi 14,vb false]):=zw (x:=xtK [kw0,kw1,kw2,kw3,kw4,kw5,kw6,kw7,kw8,kw9,yF,yG,yI,yM,yO,yV,yY,y7,qc,qh,qn,qr,qz,qE,qN,qU,q9,kk,ku,ky,kF,kP,kY,je,jm,jD,jR,Zd,Zx,ZR,Yb,Yx,YY,Qr,QG,KS,Jn,J7,Wk,zak]) (l:=yl) (fl:=zP) (wk:=zQ) (lim:=900) (n:=60) (by decide +kernel)
def zbi:Kn Tryz.prog:=⟨115,[z8,vi 14],.tup [vi 14,vb false],zD3⟩
def zCT:V:=.tup [.agg [vi 2,vs ⟨#[98,114,101,97,107,45,98,101,102,111,114,101]⟩,vi 0],vi 14]
theorem zD4:zg Tryz.prog 116 [z8,vi 2] (zCT):=zw (x:=xtK [kw0,kw1,kw2,kw3,kw4,kw5,kw6,kw7,kw8,kw9,yF,yG,yI,yM,yO,yV,yY,y7,qc,qh,qn,qr,qz,qE,qN,qU,q9,kk,ku,ky,kF,kP,kY,je,jm,jD,jR,Zd,Zx,ZR,Yb,Yx,YY,Qr,QG,KS,Jn,J7,Wk,zak,zbi]) (l:=yl) (fl:=zP) (wk:=zQ) (lim:=900) (n:=60) (by decide +kernel)
def zcA:Kn Tryz.prog:=⟨116,[z8,vi 2],zCT,zD4⟩
theorem zD5:zg Tryz.prog 115 [z8,vi 2] (.tup [vi 2,vb false]):=zw (x:=xtK [kw0,kw1,kw2,kw3,kw4,kw5,kw6,kw7,kw8,kw9,yF,yG,yI,yM,yO,yV,yY,y7,qc,qh,qn,qr,qz,qE,qN,qU,q9,kk,ku,ky,kF,kP,kY,je,jm,jD,jR,Zd,Zx,ZR,Yb,Yx,YY,Qr,QG,KS,Jn,J7,Wk,zak,zbi,zcA]) (l:=yl) (fl:=zP) (wk:=zQ) (lim:=900) (n:=60) (by decide +kernel)
def zd2:Kn Tryz.prog:=⟨115,[z8,vi 2],.tup [vi 2,vb false],zD5⟩
theorem zD6:zg Tryz.prog 116 [z8,vi 1] (.tup [.agg [vi 12,vs ⟨#[123]⟩,vi 0],vi 2]):=zw (x:=xtK [kw0,kw1,kw2,kw3,kw4,kw5,kw6,kw7,kw8,kw9,yF,yG,yI,yM,yO,yV,yY,y7,qc,qh,qn,qr,qz,qE,qN,qU,q9,kk,ku,ky,kF,kP,kY,je,jm,jD,jR,Zd,Zx,ZR,Yb,Yx,YY,Qr,QG,KS,Jn,J7,Wk,zak,zbi,zcA,zd2]) (l:=yl) (fl:=zP) (wk:=zQ) (lim:=900) (n:=60) (by decide +kernel)
def zgc:Kn Tryz.prog:=⟨116,[z8,vi 1],.tup [.agg [vi 12,vs ⟨#[123]⟩,vi 0],vi 2],zD6⟩
theorem zD7:zg Tryz.prog 115 [z8,vi 1] (.tup [vi 1,vb false]):=zw (x:=xtK [kw0,kw1,kw2,kw3,kw4,kw5,kw6,kw7,kw8,kw9,yF,yG,yI,yM,yO,yV,yY,y7,qc,qh,qn,qr,qz,qE,qN,qU,q9,kk,ku,ky,kF,kP,kY,je,jm,jD,jR,Zd,Zx,ZR,Yb,Yx,YY,Qr,QG,KS,Jn,J7,Wk,zak,zbi,zcA,zd2,zgc]) (l:=yl) (fl:=zP) (wk:=zQ) (lim:=900) (n:=60) (by decide +kernel)
def ziY:Kn Tryz.prog:=⟨115,[z8,vi 1],.tup [vi 1,vb false],zD7⟩
theorem zD8:zg Tryz.prog 116 [z8,vi 0] (.tup [.agg [vi 2,vs ⟨#[112]⟩,vi 0],vi 1]):=zw (x:=xtK [kw0,kw1,kw2,kw3,kw4,kw5,kw6,kw7,kw8,kw9,yF,yG,yI,yM,yO,yV,yY,y7,qc,qh,qn,qr,qz,qE,qN,qU,q9,kk,ku,ky,kF,kP,kY,je,jm,jD,jR,Zd,Zx,ZR,Yb,Yx,YY,Qr,QG,KS,Jn,J7,Wk,zak,zbi,zcA,zd2,zgc,ziY]) (l:=yl) (fl:=zP) (wk:=zQ) (lim:=900) (n:=60) (by decide +kernel)
def zmD:Kn Tryz.prog:=⟨116,[z8,vi 0],.tup [.agg [vi 2,vs ⟨#[112]⟩,vi 0],vi 1],zD8⟩
theorem zD9:zg Tryz.prog 115 [z8,vi 0] (.tup [vi 0,vb false]):=zw (x:=xtK [kw0,kw1,kw2,kw3,kw4,kw5,kw6,kw7,kw8,kw9,yF,yG,yI,yM,yO,yV,yY,y7,qc,qh,qn,qr,qz,qE,qN,qU,q9,kk,ku,ky,kF,kP,kY,je,jm,jD,jR,Zd,Zx,ZR,Yb,Yx,YY,Qr,QG,KS,Jn,J7,Wk,zak,zbi,zcA,zd2,zgc,ziY,zmD]) (l:=yl) (fl:=zP) (wk:=zQ) (lim:=900) (n:=60) (by decide +kernel)
def zrF:Kn Tryz.prog:=⟨115,[z8,vi 0],.tup [vi 0,vb false],zD9⟩
def zmI:V:=.slc 1 [[.c (.int .u8 112)],[.c (.int .u8 123)],[.c (.int .u8 98)],[.c (.int .u8 114)],[.c (.int .u8 101)],[.c (.int .u8 97)],[.c (.int .u8 107)],[.c (.int .u8 45)],[.c (.int .u8 98)],[.c (.int .u8 101)],[.c (.int .u8 102)],[.c (.int .u8 111)],[.c (.int .u8 114)],[.c (.int .u8 101)],[.c (.int .u8 58)],[.c (.int .u8 108)],[.c (.int .u8 101)],[.c (.int .u8 102)],[.c (.int .u8 116)],[.c (.int .u8 125)],[.c (.int .u8 32)],[.c (.int .u8 112)],[.c (.int .u8 123)],[.c (.int .u8 98)],[.c (.int .u8 114)],[.c (.int .u8 101)],[.c (.int .u8 97)],[.c (.int .u8 107)],[.c (.int .u8 45)],[.c (.int .u8 98)],[.c (.int .u8 101)],[.c (.int .u8 102)],[.c (.int .u8 111)],[.c (.int .u8 114)],[.c (.int .u8 101)],[.c (.int .u8 58)],[.c (.int .u8 120)],[.c (.int .u8 59)],[.c (.int .u8 112)],[.c (.int .u8 97)],[.c (.int .u8 103)],[.c (.int .u8 101)],[.c (.int .u8 58)],[.c (.int .u8 97)],[.c (.int .u8 125)]]
theorem zEa:zg Tryz.prog 114 [zmI] (z8):=zw (x:=xtK [kw0,kw1,kw2,kw3,kw4,kw5,kw6,kw7,kw8,kw9,yF,yG,yI,yM,yO,yV,yY,y7,qc,qh,qn,qr,qz,qE,qN,qU,q9,kk,ku,ky,kF,kP,kY,je,jm,jD,jR,Zd,Zx,ZR,Yb,Yx,YY,Qr,QG,KS,Jn,J7,Wk,zak,zbi,zcA,zd2,zgc,ziY,zmD,zrF]) (l:=yl) (fl:=zP) (wk:=zQ) (lim:=900) (n:=60) (by decide +kernel)
def zxC:Kn Tryz.prog:=⟨114,[zmI],z8,zEa⟩
def zCU:V:=.tup [.slc 3 [[vi 2,vs ⟨#[112]⟩,vi 0],[vi 12,vs ⟨#[123]⟩,vi 0],[vi 2,vs ⟨#[98,114,101,97,107,45,98,101,102,111,114,101]⟩,vi 0],[vi 14,vs ⟨#[]⟩,vi 0],[vi 2,vs ⟨#[108,101,102,116]⟩,vi 0],[vi 13,vs ⟨#[125]⟩,vi 0],[vi 1,vs ⟨#[]⟩,vi 0],[vi 2,vs ⟨#[112]⟩,vi 0],[vi 12,vs ⟨#[123]⟩,vi 0],[vi 2,vs ⟨#[98,114,101,97,107,45,98,101,102,111,114,101]⟩,vi 0],[vi 14,vs ⟨#[]⟩,vi 0],[vi 2,vs ⟨#[120]⟩,vi 0],[vi 15,vs ⟨#[]⟩,vi 0],[vi 2,vs ⟨#[112,97,103,101]⟩,vi 0],[vi 14,vs ⟨#[]⟩,vi 0],[vi 2,vs ⟨#[97]⟩,vi 0],[vi 13,vs ⟨#[125]⟩,vi 0]],vi 0]
theorem zEb:zg Tryz.prog 90 [zmI] (zCU):=zw (x:=xtK [kw0,kw1,kw2,kw3,kw4,kw5,kw6,kw7,kw8,kw9,yF,yG,yI,yM,yO,yV,yY,y7,qc,qh,qn,qr,qz,qE,qN,qU,q9,kk,ku,ky,kF,kP,kY,je,jm,jD,jR,Zd,Zx,ZR,Yb,Yx,YY,Qr,QG,KS,Jn,J7,Wk,zak,zbi,zcA,zd2,zgc,ziY,zmD,zrF,zxC]) (l:=yl) (fl:=zP) (wk:=zQ) (lim:=900) (n:=60) (by decide +kernel)
def zBB:Kn Tryz.prog:=⟨90,[zmI],zCU,zEb⟩
def zCV:V:=.tup [.slc 4 [[vi 1,.slc 3 [[vi 2,vs ⟨#[112]⟩,vi 0]],.slc 3 [[vs ⟨#[98,114,101,97,107,45,98,101,102,111,114,101]⟩,.slc 3 [[vi 2,vs ⟨#[108,101,102,116]⟩,vi 0]],vb false]],zA],[vi 1,.slc 3 [[vi 2,vs ⟨#[112]⟩,vi 0]],.slc 3 [[vs ⟨#[98,114,101,97,107,45,98,101,102,111,114,101]⟩,.slc 3 [[vi 2,vs ⟨#[120]⟩,vi 0]],vb false],[vs ⟨#[112,97,103,101]⟩,.slc 3 [[vi 2,vs ⟨#[97]⟩,vi 0]],vb false]],zA]],vi 0]
theorem zEc:zg Tryz.prog 56 [zmI] (zCV):=zw (x:=xtK [kw0,kw1,kw2,kw3,kw4,kw5,kw6,kw7,kw8,kw9,yF,yG,yI,yM,yO,yV,yY,y7,qc,qh,qn,qr,qz,qE,qN,qU,q9,kk,ku,ky,kF,kP,kY,je,jm,jD,jR,Zd,Zx,ZR,Yb,Yx,YY,Qr,QG,KS,Jn,J7,Wk,zak,zbi,zcA,zd2,zgc,ziY,zmD,zrF,zxC,zBB]) (l:=yl) (fl:=zP) (wk:=zQ) (lim:=900) (n:=60) (by decide +kernel)
def zCN:Kn Tryz.prog:=⟨56,[zmI],zCV,zEc⟩
def zCW:V:=vs ⟨#[112,123,98,114,101,97,107,45,98,101,102,111,114,101,58,108,101,102,116,125,32,112,123,98,114,101,97,107,45,98,101,102,111,114,101,58,120,59,112,97,103,101,58,97,125]⟩
def zCX:V:=.slc 4 [[vi 1,.slc 3 [[vi 2,vs ⟨#[112]⟩,vi 0]],.slc 3 [[vs ⟨#[98,114,101,97,107,45,98,101,102,111,114,101]⟩,.slc 3 [[vi 2,vs ⟨#[108,101,102,116]⟩,vi 0]],vb false]],zA],[vi 1,.slc 3 [[vi 2,vs ⟨#[112]⟩,vi 0]],.slc 3 [[vs ⟨#[98,114,101,97,107,45,98,101,102,111,114,101]⟩,.slc 3 [[vi 2,vs ⟨#[120]⟩,vi 0]],vb false],[vs ⟨#[112,97,103,101]⟩,.slc 3 [[vi 2,vs ⟨#[97]⟩,vi 0]],vb false]],zA]]
theorem zEd:zg Tryz.prog 30 [zCW] (zCX):=zw (x:=xtK [kw0,kw1,kw2,kw3,kw4,kw5,kw6,kw7,kw8,kw9,yF,yG,yI,yM,yO,yV,yY,y7,qc,qh,qn,qr,qz,qE,qN,qU,q9,kk,ku,ky,kF,kP,kY,je,jm,jD,jR,Zd,Zx,ZR,Yb,Yx,YY,Qr,QG,KS,Jn,J7,Wk,zak,zbi,zcA,zd2,zgc,ziY,zmD,zrF,zxC,zBB,zCN]) (l:=yl) (fl:=zP) (wk:=zQ) (lim:=900) (n:=60) (by decide +kernel)
def zDm:Kn Tryz.prog:=⟨30,[zCW],zCX,zEd⟩
theorem zqr:zg Tryz.prog 12 [] (vb true):=zw (x:=xtK [kw0,kw1,kw2,kw3,kw4,kw5,kw6,kw7,kw8,kw9,yF,yG,yI,yM,yO,yV,yY,y7,qc,qh,qn,qr,qz,qE,qN,qU,q9,kk,ku,ky,kF,kP,kY,je,jm,jD,jR,Zd,Zx,ZR,Yb,Yx,YY,Qr,QG,KS,Jn,J7,Wk,zak,zbi,zcA,zd2,zgc,ziY,zmD,zrF,zxC,zBB,zCN,zDm]) (l:=yl) (fl:=zP) (wk:=zQ) (lim:=900) (n:=60) (by decide +kernel)
end Go.Proofs.YtjcmoedalneldaaGreat
