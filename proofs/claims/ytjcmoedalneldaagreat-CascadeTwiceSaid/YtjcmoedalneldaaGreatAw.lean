/- Part of the proof of CascadeTwice. No condition. -/
import Derived.Test.YtjcmoedalneldaaGreatKn
import Derived.Test.YtjcmoedalneldaaGreatProg
namespace Go.Proofs.YtjcmoedalneldaaGreat
open Go.Sx
set_option maxRecDepth 100000
noncomputable def feK (k:Nat)(h:(zp Tryz.prog k).isSome=true):Fe Tryz.prog:=⟨k,(zp Tryz.prog k).get h,(Option.some_get h).symm⟩
noncomputable def z4:List (Fe Tryz.prog):=[feK 8 (by decide +kernel),feK 10 (by decide +kernel),feK 12 (by decide +kernel),feK 14 (by decide +kernel),feK 18 (by decide +kernel),feK 28 (by decide +kernel),feK 30 (by decide +kernel),feK 31 (by decide +kernel),feK 34 (by decide +kernel),feK 35 (by decide +kernel),feK 36 (by decide +kernel),feK 37 (by decide +kernel),feK 39 (by decide +kernel),feK 40 (by decide +kernel),feK 41 (by decide +kernel),feK 42 (by decide +kernel),feK 43 (by decide +kernel),feK 44 (by decide +kernel),feK 55 (by decide +kernel),feK 56 (by decide +kernel),feK 57 (by decide +kernel),feK 58 (by decide +kernel),feK 59 (by decide +kernel),feK 62 (by decide +kernel),feK 63 (by decide +kernel),feK 64 (by decide +kernel),feK 65 (by decide +kernel),feK 66 (by decide +kernel),feK 67 (by decide +kernel),feK 68 (by decide +kernel),feK 69 (by decide +kernel),feK 71 (by decide +kernel),feK 72 (by decide +kernel),feK 73 (by decide +kernel),feK 74 (by decide +kernel),feK 75 (by decide +kernel),feK 77 (by decide +kernel),feK 78 (by decide +kernel),feK 79 (by decide +kernel),feK 81 (by decide +kernel),feK 82 (by decide +kernel),feK 83 (by decide +kernel),feK 89 (by decide +kernel),feK 90 (by decide +kernel),feK 91 (by decide +kernel),feK 92 (by decide +kernel),feK 93 (by decide +kernel),feK 94 (by decide +kernel),feK 95 (by decide +kernel),feK 96 (by decide +kernel),feK 97 (by decide +kernel),feK 98 (by decide +kernel),feK 99 (by decide +kernel),feK 100 (by decide +kernel),feK 101 (by decide +kernel),feK 103 (by decide +kernel),feK 104 (by decide +kernel),feK 106 (by decide +kernel),feK 107 (by decide +kernel),feK 113 (by decide +kernel),feK 114 (by decide +kernel),feK 115 (by decide +kernel),feK 116 (by decide +kernel),feK 117 (by decide +kernel),feK 118 (by decide +kernel),feK 119 (by decide +kernel),feK 121 (by decide +kernel),feK 123 (by decide +kernel),feK 124 (by decide +kernel),feK 125 (by decide +kernel),feK 126 (by decide +kernel),feK 127 (by decide +kernel),feK 128 (by decide +kernel),feK 130 (by decide +kernel),feK 131 (by decide +kernel),feK 139 (by decide +kernel),feK 140 (by decide +kernel),feK 141 (by decide +kernel),feK 143 (by decide +kernel),feK 144 (by decide +kernel),feK 145 (by decide +kernel),feK 149 (by decide +kernel),feK 150 (by decide +kernel),feK 151 (by decide +kernel),feK 152 (by decide +kernel),feK 154 (by decide +kernel),feK 155 (by decide +kernel),feK 156 (by decide +kernel),feK 157 (by decide +kernel),feK 158 (by decide +kernel),feK 165 (by decide +kernel),feK 168 (by decide +kernel),feK 169 (by decide +kernel),feK 170 (by decide +kernel),feK 171 (by decide +kernel),feK 173 (by decide +kernel),feK 174 (by decide +kernel),feK 175 (by decide +kernel),feK 177 (by decide +kernel),feK 178 (by decide +kernel),feK 180 (by decide +kernel)]
def zH:List Nat:=[8,10,12,28,31,34,36,57,59,65,66,67,68,69,72,73,74,77,78,83,94,95,96,100,103,104,107,121,123,124,125,126,130,140,141,143,144,149,152,155,156,157,158,165,168,171,173,174,175,177,180]
def zI:List Nat:=[39]
def lw0:V:=.agg [vi 1,.slc 3 [[vi 2,vs ⟨#[112]⟩,vi 0]],.slc 3 [[vs ⟨#[98,114,101,97,107,45,98,101,102,111,114,101]⟩,.slc 3 [[vi 2,vs ⟨#[120]⟩,vi 0]],vb false],[vs ⟨#[112,97,103,101]⟩,.slc 3 [[vi 2,vs ⟨#[97]⟩,vi 0]],vb false]],zD]
def lw1:V:=.slc 6 [[vi (-1),vs ⟨#[112]⟩,vs ⟨#[]⟩,zD,zD,vs ⟨#[]⟩]]
theorem tw0:zf Tryz.prog 35 [lw0,lw1,vi 0] (.tup [.agg [vi 0,vi 0,vi 1],vb true]):=zm (x:=xtK []) (l:=z4) (fl:=zH) (wk:=zI) (lim:=900) (n:=60) (by decide +kernel)
def kw0:Kn Tryz.prog:=⟨35,[lw0,lw1,vi 0],.tup [.agg [vi 0,vi 0,vi 1],vb true],tw0⟩
def lw2:V:=.agg [vi 1,.slc 3 [[vi 2,vs ⟨#[112]⟩,vi 0]],.slc 3 [[vs ⟨#[98,114,101,97,107,45,98,101,102,111,114,101]⟩,.slc 3 [[vi 2,vs ⟨#[108,101,102,116]⟩,vi 0]],vb false]],zD]
theorem tw1:zf Tryz.prog 35 [lw2,lw1,vi 0] (.tup [.agg [vi 0,vi 0,vi 1],vb true]):=zm (x:=xtK [kw0]) (l:=z4) (fl:=zH) (wk:=zI) (lim:=900) (n:=60) (by decide +kernel)
def kw1:Kn Tryz.prog:=⟨35,[lw2,lw1,vi 0],.tup [.agg [vi 0,vi 0,vi 1],vb true],tw1⟩
theorem tw2:zf Tryz.prog 34 [lw1,vi 0] (vb true):=zm (x:=xtK [kw0,kw1]) (l:=z4) (fl:=zH) (wk:=zI) (lim:=900) (n:=60) (by decide +kernel)
def kw2:Kn Tryz.prog:=⟨34,[lw1,vi 0],vb true,tw2⟩
def lw3:V:=.slc 1 [[.slc 4 [[vi 1,.slc 3 [[vi 2,vs ⟨#[112]⟩,vi 0]],.slc 3 [[vs ⟨#[98,114,101,97,107,45,98,101,102,111,114,101]⟩,.slc 3 [[vi 2,vs ⟨#[108,101,102,116]⟩,vi 0]],vb false]],zD],[vi 1,.slc 3 [[vi 2,vs ⟨#[112]⟩,vi 0]],.slc 3 [[vs ⟨#[98,114,101,97,107,45,98,101,102,111,114,101]⟩,.slc 3 [[vi 2,vs ⟨#[120]⟩,vi 0]],vb false],[vs ⟨#[112,97,103,101]⟩,.slc 3 [[vi 2,vs ⟨#[97]⟩,vi 0]],vb false]],zD]]]]
theorem tw3:zf Tryz.prog 14 [lw3,lw1,vi 0,vi 7] (.tup [.agg [vi 0,vi 0,vi 0,vi 0,vi 0],zD,vb false]):=zm (x:=xtK [kw0,kw1,kw2]) (l:=z4) (fl:=zH) (wk:=zI) (lim:=900) (n:=60) (by decide +kernel)
def kw3:Kn Tryz.prog:=⟨14,[lw3,lw1,vi 0,vi 7],.tup [.agg [vi 0,vi 0,vi 0,vi 0,vi 0],zD,vb false],tw3⟩
theorem tw4:zf Tryz.prog 14 [lw3,lw1,vi 0,vi 6] (.tup [.agg [vi 0,vi 0,vi 0,vi 0,vi 0],zD,vb false]):=zm (x:=xtK [kw0,kw1,kw2,kw3]) (l:=z4) (fl:=zH) (wk:=zI) (lim:=900) (n:=60) (by decide +kernel)
def kw4:Kn Tryz.prog:=⟨14,[lw3,lw1,vi 0,vi 6],.tup [.agg [vi 0,vi 0,vi 0,vi 0,vi 0],zD,vb false],tw4⟩
theorem tw5:zf Tryz.prog 14 [lw3,lw1,vi 0,vi 5] (.tup [.agg [vi 0,vi 0,vi 0,vi 0,vi 0],zD,vb false]):=zm (x:=xtK [kw0,kw1,kw2,kw3,kw4]) (l:=z4) (fl:=zH) (wk:=zI) (lim:=900) (n:=60) (by decide +kernel)
def kw5:Kn Tryz.prog:=⟨14,[lw3,lw1,vi 0,vi 5],.tup [.agg [vi 0,vi 0,vi 0,vi 0,vi 0],zD,vb false],tw5⟩
theorem tw6:zf Tryz.prog 14 [lw3,lw1,vi 0,vi 4] (.tup [.agg [vi 0,vi 0,vi 0,vi 0,vi 0],zD,vb false]):=zm (x:=xtK [kw0,kw1,kw2,kw3,kw4,kw5]) (l:=z4) (fl:=zH) (wk:=zI) (lim:=900) (n:=60) (by decide +kernel)
def kw6:Kn Tryz.prog:=⟨14,[lw3,lw1,vi 0,vi 4],.tup [.agg [vi 0,vi 0,vi 0,vi 0,vi 0],zD,vb false],tw6⟩
theorem tw7:zf Tryz.prog 14 [lw3,lw1,vi 0,vi 3] (.tup [.agg [vi 0,vi 0,vi 0,vi 0,vi 0],zD,vb false]):=zm (x:=xtK [kw0,kw1,kw2,kw3,kw4,kw5,kw6]) (l:=z4) (fl:=zH) (wk:=zI) (lim:=900) (n:=60) (by decide +kernel)
def kw7:Kn Tryz.prog:=⟨14,[lw3,lw1,vi 0,vi 3],.tup [.agg [vi 0,vi 0,vi 0,vi 0,vi 0],zD,vb false],tw7⟩
def lw4:V:=.tup [.agg [vi 0,vi 0,vi 0,vi 1,vi 2],.slc 3 [[vi 2,vs ⟨#[97]⟩,vi 0]],vb true]
theorem tw8:zf Tryz.prog 14 [lw3,lw1,vi 0,vi 2] (lw4):=zm (x:=xtK [kw0,kw1,kw2,kw3,kw4,kw5,kw6,kw7]) (l:=z4) (fl:=zH) (wk:=zI) (lim:=900) (n:=60) (by decide +kernel)
def kw8:Kn Tryz.prog:=⟨14,[lw3,lw1,vi 0,vi 2],lw4,tw8⟩
theorem tw9:zf Tryz.prog 14 [lw3,lw1,vi 0,vi 1] (.tup [.agg [vi 0,vi 0,vi 0,vi 0,vi 0],zD,vb false]):=zm (x:=xtK [kw0,kw1,kw2,kw3,kw4,kw5,kw6,kw7,kw8]) (l:=z4) (fl:=zH) (wk:=zI) (lim:=900) (n:=60) (by decide +kernel)
def kw9:Kn Tryz.prog:=⟨14,[lw3,lw1,vi 0,vi 1],.tup [.agg [vi 0,vi 0,vi 0,vi 0,vi 0],zD,vb false],tw9⟩
def lw5:V:=.tup [.agg [vi 0,vi 0,vi 0,vi 1,vi 0],.slc 3 [[vi 2,vs ⟨#[108,101,102,116]⟩,vi 0]],vb true]
theorem zxv:zf Tryz.prog 14 [lw3,lw1,vi 0,vi 0] (lw5):=zm (x:=xtK [kw0,kw1,kw2,kw3,kw4,kw5,kw6,kw7,kw8,kw9]) (l:=z4) (fl:=zH) (wk:=zI) (lim:=900) (n:=60) (by decide +kernel)
def yg:Kn Tryz.prog:=⟨14,[lw3,lw1,vi 0,vi 0],lw5,zxv⟩
theorem zxw:zf Tryz.prog 81 [.slc 3 [[vi 2,vs ⟨#[112]⟩,vi 0]]] (.tup [.slc 1 [[vi (-1)]],vi 0]):=zm (x:=xtK [kw0,kw1,kw2,kw3,kw4,kw5,kw6,kw7,kw8,kw9,yg]) (l:=z4) (fl:=zH) (wk:=zI) (lim:=900) (n:=60) (by decide +kernel)
def yh:Kn Tryz.prog:=⟨81,[.slc 3 [[vi 2,vs ⟨#[112]⟩,vi 0]]],.tup [.slc 1 [[vi (-1)]],vi 0],zxw⟩
theorem zxx:zf Tryz.prog 94 [.slc 3 [[vi 2,vs ⟨#[112]⟩,vi 0]]] (vb true):=zm (x:=xtK [kw0,kw1,kw2,kw3,kw4,kw5,kw6,kw7,kw8,kw9,yg,yh]) (l:=z4) (fl:=zH) (wk:=zI) (lim:=900) (n:=60) (by decide +kernel)
def yi:Kn Tryz.prog:=⟨94,[.slc 3 [[vi 2,vs ⟨#[112]⟩,vi 0]]],vb true,zxx⟩
theorem zxy:zf Tryz.prog 81 [.slc 3 [[vi 2,vs ⟨#[97]⟩,vi 0]]] (.tup [.slc 1 [[vi (-1)]],vi 0]):=zm (x:=xtK [kw0,kw1,kw2,kw3,kw4,kw5,kw6,kw7,kw8,kw9,yg,yh,yi]) (l:=z4) (fl:=zH) (wk:=zI) (lim:=900) (n:=60) (by decide +kernel)
def yl:Kn Tryz.prog:=⟨81,[.slc 3 [[vi 2,vs ⟨#[97]⟩,vi 0]]],.tup [.slc 1 [[vi (-1)]],vi 0],zxy⟩
theorem zxz:zf Tryz.prog 94 [.slc 3 [[vi 2,vs ⟨#[97]⟩,vi 0]]] (vb true):=zm (x:=xtK [kw0,kw1,kw2,kw3,kw4,kw5,kw6,kw7,kw8,kw9,yg,yh,yi,yl]) (l:=z4) (fl:=zH) (wk:=zI) (lim:=900) (n:=60) (by decide +kernel)
def yp:Kn Tryz.prog:=⟨94,[.slc 3 [[vi 2,vs ⟨#[97]⟩,vi 0]]],vb true,zxz⟩
def lw6:V:=.slc 3 [[vi 2,vs ⟨#[112]⟩,vi 0],[vi 12,vs ⟨#[123]⟩,vi 0],[vi 2,vs ⟨#[98,114,101,97,107,45,98,101,102,111,114,101]⟩,vi 0],[vi 14,vs ⟨#[]⟩,vi 0],[vi 2,vs ⟨#[108,101,102,116]⟩,vi 0],[vi 13,vs ⟨#[125]⟩,vi 0],[vi 1,vs ⟨#[]⟩,vi 0],[vi 2,vs ⟨#[112]⟩,vi 0],[vi 12,vs ⟨#[123]⟩,vi 0],[vi 2,vs ⟨#[98,114,101,97,107,45,98,101,102,111,114,101]⟩,vi 0],[vi 14,vs ⟨#[]⟩,vi 0],[vi 2,vs ⟨#[120]⟩,vi 0],[vi 15,vs ⟨#[]⟩,vi 0],[vi 2,vs ⟨#[112,97,103,101]⟩,vi 0],[vi 14,vs ⟨#[]⟩,vi 0],[vi 2,vs ⟨#[97]⟩,vi 0],[vi 13,vs ⟨#[125]⟩,vi 0]]
def lw7:V:=.tup [.agg [vs ⟨#[112,97,103,101]⟩,.slc 3 [[vi 2,vs ⟨#[97]⟩,vi 0]],vb false],vb true]
theorem zxA:zf Tryz.prog 119 [lw6,vi 13,vi 16] (lw7):=zm (x:=xtK [kw0,kw1,kw2,kw3,kw4,kw5,kw6,kw7,kw8,kw9,yg,yh,yi,yl,yp]) (l:=z4) (fl:=zH) (wk:=zI) (lim:=900) (n:=60) (by decide +kernel)
def yu:Kn Tryz.prog:=⟨119,[lw6,vi 13,vi 16],lw7,zxA⟩
theorem zxB:zf Tryz.prog 81 [.slc 3 [[vi 2,vs ⟨#[120]⟩,vi 0]]] (.tup [.slc 1 [[vi (-1)]],vi 0]):=zm (x:=xtK [kw0,kw1,kw2,kw3,kw4,kw5,kw6,kw7,kw8,kw9,yg,yh,yi,yl,yp,yu]) (l:=z4) (fl:=zH) (wk:=zI) (lim:=900) (n:=60) (by decide +kernel)
def yx:Kn Tryz.prog:=⟨81,[.slc 3 [[vi 2,vs ⟨#[120]⟩,vi 0]]],.tup [.slc 1 [[vi (-1)]],vi 0],zxB⟩
theorem zxC:zf Tryz.prog 94 [.slc 3 [[vi 2,vs ⟨#[120]⟩,vi 0]]] (vb true):=zm (x:=xtK [kw0,kw1,kw2,kw3,kw4,kw5,kw6,kw7,kw8,kw9,yg,yh,yi,yl,yp,yu,yx]) (l:=z4) (fl:=zH) (wk:=zI) (lim:=900) (n:=60) (by decide +kernel)
def yA:Kn Tryz.prog:=⟨94,[.slc 3 [[vi 2,vs ⟨#[120]⟩,vi 0]]],vb true,zxC⟩
def lw8:V:=.tup [.agg [vs ⟨#[98,114,101,97,107,45,98,101,102,111,114,101]⟩,.slc 3 [[vi 2,vs ⟨#[120]⟩,vi 0]],vb false],vb true]
theorem zxD:zf Tryz.prog 119 [lw6,vi 9,vi 12] (lw8):=zm (x:=xtK [kw0,kw1,kw2,kw3,kw4,kw5,kw6,kw7,kw8,kw9,yg,yh,yi,yl,yp,yu,yx,yA]) (l:=z4) (fl:=zH) (wk:=zI) (lim:=900) (n:=60) (by decide +kernel)
def yF:Kn Tryz.prog:=⟨119,[lw6,vi 9,vi 12],lw8,zxD⟩
def lw9:V:=.slc 1 [[vi (-1)],[vi 5],[vi (-1)],[vi (-1)],[vi (-1)],[vi (-1)],[vi (-1)],[vi (-1)],[vi 16],[vi (-1)],[vi (-1)],[vi (-1)],[vi (-1)],[vi (-1)],[vi (-1)],[vi (-1)],[vi (-1)]]
def zwX:V:=.tup [.slc 3 [[vs ⟨#[98,114,101,97,107,45,98,101,102,111,114,101]⟩,.slc 3 [[vi 2,vs ⟨#[120]⟩,vi 0]],vb false],[vs ⟨#[112,97,103,101]⟩,.slc 3 [[vi 2,vs ⟨#[97]⟩,vi 0]],vb false]],zD]
theorem zxE:zf Tryz.prog 93 [lw6,lw9,vi 9,vi 16,vb false] (zwX):=zm (x:=xtK [kw0,kw1,kw2,kw3,kw4,kw5,kw6,kw7,kw8,kw9,yg,yh,yi,yl,yp,yu,yx,yA,yF]) (l:=z4) (fl:=zH) (wk:=zI) (lim:=900) (n:=60) (by decide +kernel)
def yM:Kn Tryz.prog:=⟨93,[lw6,lw9,vi 9,vi 16,vb false],zwX,zxE⟩
theorem zxF:zf Tryz.prog 81 [.slc 3 [[vi 2,vs ⟨#[108,101,102,116]⟩,vi 0]]] (.tup [.slc 1 [[vi (-1)]],vi 0]):=zm (x:=xtK [kw0,kw1,kw2,kw3,kw4,kw5,kw6,kw7,kw8,kw9,yg,yh,yi,yl,yp,yu,yx,yA,yF,yM]) (l:=z4) (fl:=zH) (wk:=zI) (lim:=900) (n:=60) (by decide +kernel)
def yQ:Kn Tryz.prog:=⟨81,[.slc 3 [[vi 2,vs ⟨#[108,101,102,116]⟩,vi 0]]],.tup [.slc 1 [[vi (-1)]],vi 0],zxF⟩
theorem zxG:zf Tryz.prog 94 [.slc 3 [[vi 2,vs ⟨#[108,101,102,116]⟩,vi 0]]] (vb true):=zm (x:=xtK [kw0,kw1,kw2,kw3,kw4,kw5,kw6,kw7,kw8,kw9,yg,yh,yi,yl,yp,yu,yx,yA,yF,yM,yQ]) (l:=z4) (fl:=zH) (wk:=zI) (lim:=900) (n:=60) (by decide +kernel)
def yT:Kn Tryz.prog:=⟨94,[.slc 3 [[vi 2,vs ⟨#[108,101,102,116]⟩,vi 0]]],vb true,zxG⟩
def zwY:V:=.tup [.agg [vs ⟨#[98,114,101,97,107,45,98,101,102,111,114,101]⟩,.slc 3 [[vi 2,vs ⟨#[108,101,102,116]⟩,vi 0]],vb false],vb true]
theorem zxH:zf Tryz.prog 119 [lw6,vi 2,vi 5] (zwY):=zm (x:=xtK [kw0,kw1,kw2,kw3,kw4,kw5,kw6,kw7,kw8,kw9,yg,yh,yi,yl,yp,yu,yx,yA,yF,yM,yQ,yT]) (l:=z4) (fl:=zH) (wk:=zI) (lim:=900) (n:=60) (by decide +kernel)
def yY:Kn Tryz.prog:=⟨119,[lw6,vi 2,vi 5],zwY,zxH⟩
def zwZ:V:=.tup [.slc 3 [[vs ⟨#[98,114,101,97,107,45,98,101,102,111,114,101]⟩,.slc 3 [[vi 2,vs ⟨#[108,101,102,116]⟩,vi 0]],vb false]],zD]
theorem zxI:zf Tryz.prog 93 [lw6,lw9,vi 2,vi 5,vb false] (zwZ):=zm (x:=xtK [kw0,kw1,kw2,kw3,kw4,kw5,kw6,kw7,kw8,kw9,yg,yh,yi,yl,yp,yu,yx,yA,yF,yM,yQ,yT,yY]) (l:=z4) (fl:=zH) (wk:=zI) (lim:=900) (n:=60) (by decide +kernel)
def y9:Kn Tryz.prog:=⟨93,[lw6,lw9,vi 2,vi 5,vb false],zwZ,zxI⟩
def zw0:V:=.tup [.slc 1 [[vi (-1)],[vi 5],[vi (-1)],[vi (-1)],[vi (-1)],[vi (-1)],[vi (-1)],[vi (-1)],[vi 16],[vi (-1)],[vi (-1)],[vi (-1)],[vi (-1)],[vi (-1)],[vi (-1)],[vi (-1)],[vi (-1)]],vi 0]
theorem zxJ:zf Tryz.prog 81 [lw6] (zw0):=zm (x:=xtK [kw0,kw1,kw2,kw3,kw4,kw5,kw6,kw7,kw8,kw9,yg,yh,yi,yl,yp,yu,yx,yA,yF,yM,yQ,yT,yY,y9]) (l:=z4) (fl:=zH) (wk:=zI) (lim:=900) (n:=60) (by decide +kernel)
def qi:Kn Tryz.prog:=⟨81,[lw6],zw0,zxJ⟩
def zY:V:=.slc 1 [[vi 112],[vi 123],[vi 98],[vi 114],[vi 101],[vi 97],[vi 107],[vi 45],[vi 98],[vi 101],[vi 102],[vi 111],[vi 114],[vi 101],[vi 58],[vi 108],[vi 101],[vi 102],[vi 116],[vi 125],[vi 32],[vi 112],[vi 123],[vi 98],[vi 114],[vi 101],[vi 97],[vi 107],[vi 45],[vi 98],[vi 101],[vi 102],[vi 111],[vi 114],[vi 101],[vi 58],[vi 120],[vi 59],[vi 112],[vi 97],[vi 103],[vi 101],[vi 58],[vi 97],[vi 125]]
theorem zxK:zf Tryz.prog 116 [zY,vi 44] (.tup [.agg [vi 13,vs ⟨#[125]⟩,vi 0],vi 45]):=zm (x:=xtK [kw0,kw1,kw2,kw3,kw4,kw5,kw6,kw7,kw8,kw9,yg,yh,yi,yl,yp,yu,yx,yA,yF,yM,yQ,yT,yY,y9,qi]) (l:=z4) (fl:=zH) (wk:=zI) (lim:=900) (n:=60) (by decide +kernel)
def qn:Kn Tryz.prog:=⟨116,[zY,vi 44],.tup [.agg [vi 13,vs ⟨#[125]⟩,vi 0],vi 45],zxK⟩
theorem zxL:zf Tryz.prog 115 [zY,vi 44] (.tup [vi 44,vb false]):=zm (x:=xtK [kw0,kw1,kw2,kw3,kw4,kw5,kw6,kw7,kw8,kw9,yg,yh,yi,yl,yp,yu,yx,yA,yF,yM,yQ,yT,yY,y9,qi,qn]) (l:=z4) (fl:=zH) (wk:=zI) (lim:=900) (n:=60) (by decide +kernel)
def qw:Kn Tryz.prog:=⟨115,[zY,vi 44],.tup [vi 44,vb false],zxL⟩
theorem zxM:zf Tryz.prog 116 [zY,vi 43] (.tup [.agg [vi 2,vs ⟨#[97]⟩,vi 0],vi 44]):=zm (x:=xtK [kw0,kw1,kw2,kw3,kw4,kw5,kw6,kw7,kw8,kw9,yg,yh,yi,yl,yp,yu,yx,yA,yF,yM,yQ,yT,yY,y9,qi,qn,qw]) (l:=z4) (fl:=zH) (wk:=zI) (lim:=900) (n:=60) (by decide +kernel)
def qA:Kn Tryz.prog:=⟨116,[zY,vi 43],.tup [.agg [vi 2,vs ⟨#[97]⟩,vi 0],vi 44],zxM⟩
theorem zxN:zf Tryz.prog 115 [zY,vi 43] (.tup [vi 43,vb false]):=zm (x:=xtK [kw0,kw1,kw2,kw3,kw4,kw5,kw6,kw7,kw8,kw9,yg,yh,yi,yl,yp,yu,yx,yA,yF,yM,yQ,yT,yY,y9,qi,qn,qw,qA]) (l:=z4) (fl:=zH) (wk:=zI) (lim:=900) (n:=60) (by decide +kernel)
def qC:Kn Tryz.prog:=⟨115,[zY,vi 43],.tup [vi 43,vb false],zxN⟩
theorem zxO:zf Tryz.prog 116 [zY,vi 42] (.tup [.agg [vi 14,vs ⟨#[]⟩,vi 0],vi 43]):=zm (x:=xtK [kw0,kw1,kw2,kw3,kw4,kw5,kw6,kw7,kw8,kw9,yg,yh,yi,yl,yp,yu,yx,yA,yF,yM,yQ,yT,yY,y9,qi,qn,qw,qA,qC]) (l:=z4) (fl:=zH) (wk:=zI) (lim:=900) (n:=60) (by decide +kernel)
def qE:Kn Tryz.prog:=⟨116,[zY,vi 42],.tup [.agg [vi 14,vs ⟨#[]⟩,vi 0],vi 43],zxO⟩
theorem zxP:zf Tryz.prog 115 [zY,vi 42] (.tup [vi 42,vb false]):=zm (x:=xtK [kw0,kw1,kw2,kw3,kw4,kw5,kw6,kw7,kw8,kw9,yg,yh,yi,yl,yp,yu,yx,yA,yF,yM,yQ,yT,yY,y9,qi,qn,qw,qA,qC,qE]) (l:=z4) (fl:=zH) (wk:=zI) (lim:=900) (n:=60) (by decide +kernel)
def qO:Kn Tryz.prog:=⟨115,[zY,vi 42],.tup [vi 42,vb false],zxP⟩
theorem zxQ:zf Tryz.prog 116 [zY,vi 38] (.tup [.agg [vi 2,vs ⟨#[112,97,103,101]⟩,vi 0],vi 42]):=zm (x:=xtK [kw0,kw1,kw2,kw3,kw4,kw5,kw6,kw7,kw8,kw9,yg,yh,yi,yl,yp,yu,yx,yA,yF,yM,yQ,yT,yY,y9,qi,qn,qw,qA,qC,qE,qO]) (l:=z4) (fl:=zH) (wk:=zI) (lim:=900) (n:=60) (by decide +kernel)
def qZ:Kn Tryz.prog:=⟨116,[zY,vi 38],.tup [.agg [vi 2,vs ⟨#[112,97,103,101]⟩,vi 0],vi 42],zxQ⟩
theorem zxR:zf Tryz.prog 115 [zY,vi 38] (.tup [vi 38,vb false]):=zm (x:=xtK [kw0,kw1,kw2,kw3,kw4,kw5,kw6,kw7,kw8,kw9,yg,yh,yi,yl,yp,yu,yx,yA,yF,yM,yQ,yT,yY,y9,qi,qn,qw,qA,qC,qE,qO,qZ]) (l:=z4) (fl:=zH) (wk:=zI) (lim:=900) (n:=60) (by decide +kernel)
def kj:Kn Tryz.prog:=⟨115,[zY,vi 38],.tup [vi 38,vb false],zxR⟩
theorem zxS:zf Tryz.prog 116 [zY,vi 37] (.tup [.agg [vi 15,vs ⟨#[]⟩,vi 0],vi 38]):=zm (x:=xtK [kw0,kw1,kw2,kw3,kw4,kw5,kw6,kw7,kw8,kw9,yg,yh,yi,yl,yp,yu,yx,yA,yF,yM,yQ,yT,yY,y9,qi,qn,qw,qA,qC,qE,qO,qZ,kj]) (l:=z4) (fl:=zH) (wk:=zI) (lim:=900) (n:=60) (by decide +kernel)
def kp:Kn Tryz.prog:=⟨116,[zY,vi 37],.tup [.agg [vi 15,vs ⟨#[]⟩,vi 0],vi 38],zxS⟩
theorem zxT:zf Tryz.prog 115 [zY,vi 37] (.tup [vi 37,vb false]):=zm (x:=xtK [kw0,kw1,kw2,kw3,kw4,kw5,kw6,kw7,kw8,kw9,yg,yh,yi,yl,yp,yu,yx,yA,yF,yM,yQ,yT,yY,y9,qi,qn,qw,qA,qC,qE,qO,qZ,kj,kp]) (l:=z4) (fl:=zH) (wk:=zI) (lim:=900) (n:=60) (by decide +kernel)
def kC:Kn Tryz.prog:=⟨115,[zY,vi 37],.tup [vi 37,vb false],zxT⟩
theorem zxU:zf Tryz.prog 116 [zY,vi 36] (.tup [.agg [vi 2,vs ⟨#[120]⟩,vi 0],vi 37]):=zm (x:=xtK [kw0,kw1,kw2,kw3,kw4,kw5,kw6,kw7,kw8,kw9,yg,yh,yi,yl,yp,yu,yx,yA,yF,yM,yQ,yT,yY,y9,qi,qn,qw,qA,qC,qE,qO,qZ,kj,kp,kC]) (l:=z4) (fl:=zH) (wk:=zI) (lim:=900) (n:=60) (by decide +kernel)
def kW:Kn Tryz.prog:=⟨116,[zY,vi 36],.tup [.agg [vi 2,vs ⟨#[120]⟩,vi 0],vi 37],zxU⟩
theorem zxV:zf Tryz.prog 115 [zY,vi 36] (.tup [vi 36,vb false]):=zm (x:=xtK [kw0,kw1,kw2,kw3,kw4,kw5,kw6,kw7,kw8,kw9,yg,yh,yi,yl,yp,yu,yx,yA,yF,yM,yQ,yT,yY,y9,qi,qn,qw,qA,qC,qE,qO,qZ,kj,kp,kC,kW]) (l:=z4) (fl:=zH) (wk:=zI) (lim:=900) (n:=60) (by decide +kernel)
def kZ:Kn Tryz.prog:=⟨115,[zY,vi 36],.tup [vi 36,vb false],zxV⟩
theorem zxW:zf Tryz.prog 116 [zY,vi 35] (.tup [.agg [vi 14,vs ⟨#[]⟩,vi 0],vi 36]):=zm (x:=xtK [kw0,kw1,kw2,kw3,kw4,kw5,kw6,kw7,kw8,kw9,yg,yh,yi,yl,yp,yu,yx,yA,yF,yM,yQ,yT,yY,y9,qi,qn,qw,qA,qC,qE,qO,qZ,kj,kp,kC,kW,kZ]) (l:=z4) (fl:=zH) (wk:=zI) (lim:=900) (n:=60) (by decide +kernel)
def jn:Kn Tryz.prog:=⟨116,[zY,vi 35],.tup [.agg [vi 14,vs ⟨#[]⟩,vi 0],vi 36],zxW⟩
theorem zxX:zf Tryz.prog 115 [zY,vi 35] (.tup [vi 35,vb false]):=zm (x:=xtK [kw0,kw1,kw2,kw3,kw4,kw5,kw6,kw7,kw8,kw9,yg,yh,yi,yl,yp,yu,yx,yA,yF,yM,yQ,yT,yY,y9,qi,qn,qw,qA,qC,qE,qO,qZ,kj,kp,kC,kW,kZ,jn]) (l:=z4) (fl:=zH) (wk:=zI) (lim:=900) (n:=60) (by decide +kernel)
def jF:Kn Tryz.prog:=⟨115,[zY,vi 35],.tup [vi 35,vb false],zxX⟩
def zw1:V:=.tup [.agg [vi 2,vs ⟨#[98,114,101,97,107,45,98,101,102,111,114,101]⟩,vi 0],vi 35]
theorem zxY:zf Tryz.prog 116 [zY,vi 23] (zw1):=zm (x:=xtK [kw0,kw1,kw2,kw3,kw4,kw5,kw6,kw7,kw8,kw9,yg,yh,yi,yl,yp,yu,yx,yA,yF,yM,yQ,yT,yY,y9,qi,qn,qw,qA,qC,qE,qO,qZ,kj,kp,kC,kW,kZ,jn,jF]) (l:=z4) (fl:=zH) (wk:=zI) (lim:=900) (n:=60) (by decide +kernel)
def jO:Kn Tryz.prog:=⟨116,[zY,vi 23],zw1,zxY⟩
theorem zxZ:zf Tryz.prog 115 [zY,vi 23] (.tup [vi 23,vb false]):=zm (x:=xtK [kw0,kw1,kw2,kw3,kw4,kw5,kw6,kw7,kw8,kw9,yg,yh,yi,yl,yp,yu,yx,yA,yF,yM,yQ,yT,yY,y9,qi,qn,qw,qA,qC,qE,qO,qZ,kj,kp,kC,kW,kZ,jn,jF,jO]) (l:=z4) (fl:=zH) (wk:=zI) (lim:=900) (n:=60) (by decide +kernel)
def j6:Kn Tryz.prog:=⟨115,[zY,vi 23],.tup [vi 23,vb false],zxZ⟩
theorem zx0:zf Tryz.prog 116 [zY,vi 22] (.tup [.agg [vi 12,vs ⟨#[123]⟩,vi 0],vi 23]):=zm (x:=xtK [kw0,kw1,kw2,kw3,kw4,kw5,kw6,kw7,kw8,kw9,yg,yh,yi,yl,yp,yu,yx,yA,yF,yM,yQ,yT,yY,y9,qi,qn,qw,qA,qC,qE,qO,qZ,kj,kp,kC,kW,kZ,jn,jF,jO,j6]) (l:=z4) (fl:=zH) (wk:=zI) (lim:=900) (n:=60) (by decide +kernel)
def Zq:Kn Tryz.prog:=⟨116,[zY,vi 22],.tup [.agg [vi 12,vs ⟨#[123]⟩,vi 0],vi 23],zx0⟩
theorem zx1:zf Tryz.prog 115 [zY,vi 22] (.tup [vi 22,vb false]):=zm (x:=xtK [kw0,kw1,kw2,kw3,kw4,kw5,kw6,kw7,kw8,kw9,yg,yh,yi,yl,yp,yu,yx,yA,yF,yM,yQ,yT,yY,y9,qi,qn,qw,qA,qC,qE,qO,qZ,kj,kp,kC,kW,kZ,jn,jF,jO,j6,Zq]) (l:=z4) (fl:=zH) (wk:=zI) (lim:=900) (n:=60) (by decide +kernel)
def ZS:Kn Tryz.prog:=⟨115,[zY,vi 22],.tup [vi 22,vb false],zx1⟩
theorem zx2:zf Tryz.prog 116 [zY,vi 21] (.tup [.agg [vi 2,vs ⟨#[112]⟩,vi 0],vi 22]):=zm (x:=xtK [kw0,kw1,kw2,kw3,kw4,kw5,kw6,kw7,kw8,kw9,yg,yh,yi,yl,yp,yu,yx,yA,yF,yM,yQ,yT,yY,y9,qi,qn,qw,qA,qC,qE,qO,qZ,kj,kp,kC,kW,kZ,jn,jF,jO,j6,Zq,ZS]) (l:=z4) (fl:=zH) (wk:=zI) (lim:=900) (n:=60) (by decide +kernel)
def Z8:Kn Tryz.prog:=⟨116,[zY,vi 21],.tup [.agg [vi 2,vs ⟨#[112]⟩,vi 0],vi 22],zx2⟩
theorem zx3:zf Tryz.prog 115 [zY,vi 20] (.tup [vi 21,vb true]):=zm (x:=xtK [kw0,kw1,kw2,kw3,kw4,kw5,kw6,kw7,kw8,kw9,yg,yh,yi,yl,yp,yu,yx,yA,yF,yM,yQ,yT,yY,y9,qi,qn,qw,qA,qC,qE,qO,qZ,kj,kp,kC,kW,kZ,jn,jF,jO,j6,Zq,ZS,Z8]) (l:=z4) (fl:=zH) (wk:=zI) (lim:=900) (n:=60) (by decide +kernel)
def Yl:Kn Tryz.prog:=⟨115,[zY,vi 20],.tup [vi 21,vb true],zx3⟩
theorem zx4:zf Tryz.prog 116 [zY,vi 19] (.tup [.agg [vi 13,vs ⟨#[125]⟩,vi 0],vi 20]):=zm (x:=xtK [kw0,kw1,kw2,kw3,kw4,kw5,kw6,kw7,kw8,kw9,yg,yh,yi,yl,yp,yu,yx,yA,yF,yM,yQ,yT,yY,y9,qi,qn,qw,qA,qC,qE,qO,qZ,kj,kp,kC,kW,kZ,jn,jF,jO,j6,Zq,ZS,Z8,Yl]) (l:=z4) (fl:=zH) (wk:=zI) (lim:=900) (n:=60) (by decide +kernel)
def Qa:Kn Tryz.prog:=⟨116,[zY,vi 19],.tup [.agg [vi 13,vs ⟨#[125]⟩,vi 0],vi 20],zx4⟩
theorem zx5:zf Tryz.prog 115 [zY,vi 19] (.tup [vi 19,vb false]):=zm (x:=xtK [kw0,kw1,kw2,kw3,kw4,kw5,kw6,kw7,kw8,kw9,yg,yh,yi,yl,yp,yu,yx,yA,yF,yM,yQ,yT,yY,y9,qi,qn,qw,qA,qC,qE,qO,qZ,kj,kp,kC,kW,kZ,jn,jF,jO,j6,Zq,ZS,Z8,Yl,Qa]) (l:=z4) (fl:=zH) (wk:=zI) (lim:=900) (n:=60) (by decide +kernel)
def Qz:Kn Tryz.prog:=⟨115,[zY,vi 19],.tup [vi 19,vb false],zx5⟩
theorem zx6:zf Tryz.prog 116 [zY,vi 15] (.tup [.agg [vi 2,vs ⟨#[108,101,102,116]⟩,vi 0],vi 19]):=zm (x:=xtK [kw0,kw1,kw2,kw3,kw4,kw5,kw6,kw7,kw8,kw9,yg,yh,yi,yl,yp,yu,yx,yA,yF,yM,yQ,yT,yY,y9,qi,qn,qw,qA,qC,qE,qO,qZ,kj,kp,kC,kW,kZ,jn,jF,jO,j6,Zq,ZS,Z8,Yl,Qa,Qz]) (l:=z4) (fl:=zH) (wk:=zI) (lim:=900) (n:=60) (by decide +kernel)
def Ka:Kn Tryz.prog:=⟨116,[zY,vi 15],.tup [.agg [vi 2,vs ⟨#[108,101,102,116]⟩,vi 0],vi 19],zx6⟩
theorem zx7:zf Tryz.prog 115 [zY,vi 15] (.tup [vi 15,vb false]):=zm (x:=xtK [kw0,kw1,kw2,kw3,kw4,kw5,kw6,kw7,kw8,kw9,yg,yh,yi,yl,yp,yu,yx,yA,yF,yM,yQ,yT,yY,y9,qi,qn,qw,qA,qC,qE,qO,qZ,kj,kp,kC,kW,kZ,jn,jF,jO,j6,Zq,ZS,Z8,Yl,Qa,Qz,Ka]) (l:=z4) (fl:=zH) (wk:=zI) (lim:=900) (n:=60) (by decide +kernel)
def K5:Kn Tryz.prog:=⟨115,[zY,vi 15],.tup [vi 15,vb false],zx7⟩
theorem zx8:zf Tryz.prog 116 [zY,vi 14] (.tup [.agg [vi 14,vs ⟨#[]⟩,vi 0],vi 15]):=zm (x:=xtK [kw0,kw1,kw2,kw3,kw4,kw5,kw6,kw7,kw8,kw9,yg,yh,yi,yl,yp,yu,yx,yA,yF,yM,yQ,yT,yY,y9,qi,qn,qw,qA,qC,qE,qO,qZ,kj,kp,kC,kW,kZ,jn,jF,jO,j6,Zq,ZS,Z8,Yl,Qa,Qz,Ka,K5]) (l:=z4) (fl:=zH) (wk:=zI) (lim:=900) (n:=60) (by decide +kernel)
def JR:Kn Tryz.prog:=⟨116,[zY,vi 14],.tup [.agg [vi 14,vs ⟨#[]⟩,vi 0],vi 15],zx8⟩
theorem zx9:zf Tryz.prog 115 [zY,vi 14] (.tup [vi 14,vb false]):=zm (x:=xtK [kw0,kw1,kw2,kw3,kw4,kw5,kw6,kw7,kw8,kw9,yg,yh,yi,yl,yp,yu,yx,yA,yF,yM,yQ,yT,yY,y9,qi,qn,qw,qA,qC,qE,qO,qZ,kj,kp,kC,kW,kZ,jn,jF,jO,j6,Zq,ZS,Z8,Yl,Qa,Qz,Ka,K5,JR]) (l:=z4) (fl:=zH) (wk:=zI) (lim:=900) (n:=60) (by decide +kernel)
def XS:Kn Tryz.prog:=⟨115,[zY,vi 14],.tup [vi 14,vb false],zx9⟩
def zw2:V:=.tup [.agg [vi 2,vs ⟨#[98,114,101,97,107,45,98,101,102,111,114,101]⟩,vi 0],vi 14]
theorem zya:zf Tryz.prog 116 [zY,vi 2] (zw2):=zm (x:=xtK [kw0,kw1,kw2,kw3,kw4,kw5,kw6,kw7,kw8,kw9,yg,yh,yi,yl,yp,yu,yx,yA,yF,yM,yQ,yT,yY,y9,qi,qn,qw,qA,qC,qE,qO,qZ,kj,kp,kC,kW,kZ,jn,jF,jO,j6,Zq,ZS,Z8,Yl,Qa,Qz,Ka,K5,JR,XS]) (l:=z4) (fl:=zH) (wk:=zI) (lim:=900) (n:=60) (by decide +kernel)
def W5:Kn Tryz.prog:=⟨116,[zY,vi 2],zw2,zya⟩
theorem zyb:zf Tryz.prog 115 [zY,vi 2] (.tup [vi 2,vb false]):=zm (x:=xtK [kw0,kw1,kw2,kw3,kw4,kw5,kw6,kw7,kw8,kw9,yg,yh,yi,yl,yp,yu,yx,yA,yF,yM,yQ,yT,yY,y9,qi,qn,qw,qA,qC,qE,qO,qZ,kj,kp,kC,kW,kZ,jn,jF,jO,j6,Zq,ZS,Z8,Yl,Qa,Qz,Ka,K5,JR,XS,W5]) (l:=z4) (fl:=zH) (wk:=zI) (lim:=900) (n:=60) (by decide +kernel)
def zbo:Kn Tryz.prog:=⟨115,[zY,vi 2],.tup [vi 2,vb false],zyb⟩
theorem zyc:zf Tryz.prog 116 [zY,vi 1] (.tup [.agg [vi 12,vs ⟨#[123]⟩,vi 0],vi 2]):=zm (x:=xtK [kw0,kw1,kw2,kw3,kw4,kw5,kw6,kw7,kw8,kw9,yg,yh,yi,yl,yp,yu,yx,yA,yF,yM,yQ,yT,yY,y9,qi,qn,qw,qA,qC,qE,qO,qZ,kj,kp,kC,kW,kZ,jn,jF,jO,j6,Zq,ZS,Z8,Yl,Qa,Qz,Ka,K5,JR,XS,W5,zbo]) (l:=z4) (fl:=zH) (wk:=zI) (lim:=900) (n:=60) (by decide +kernel)
def zdc:Kn Tryz.prog:=⟨116,[zY,vi 1],.tup [.agg [vi 12,vs ⟨#[123]⟩,vi 0],vi 2],zyc⟩
theorem zyd:zf Tryz.prog 115 [zY,vi 1] (.tup [vi 1,vb false]):=zm (x:=xtK [kw0,kw1,kw2,kw3,kw4,kw5,kw6,kw7,kw8,kw9,yg,yh,yi,yl,yp,yu,yx,yA,yF,yM,yQ,yT,yY,y9,qi,qn,qw,qA,qC,qE,qO,qZ,kj,kp,kC,kW,kZ,jn,jF,jO,j6,Zq,ZS,Z8,Yl,Qa,Qz,Ka,K5,JR,XS,W5,zbo,zdc]) (l:=z4) (fl:=zH) (wk:=zI) (lim:=900) (n:=60) (by decide +kernel)
def zfG:Kn Tryz.prog:=⟨115,[zY,vi 1],.tup [vi 1,vb false],zyd⟩
theorem zye:zf Tryz.prog 116 [zY,vi 0] (.tup [.agg [vi 2,vs ⟨#[112]⟩,vi 0],vi 1]):=zm (x:=xtK [kw0,kw1,kw2,kw3,kw4,kw5,kw6,kw7,kw8,kw9,yg,yh,yi,yl,yp,yu,yx,yA,yF,yM,yQ,yT,yY,y9,qi,qn,qw,qA,qC,qE,qO,qZ,kj,kp,kC,kW,kZ,jn,jF,jO,j6,Zq,ZS,Z8,Yl,Qa,Qz,Ka,K5,JR,XS,W5,zbo,zdc,zfG]) (l:=z4) (fl:=zH) (wk:=zI) (lim:=900) (n:=60) (by decide +kernel)
def ziE:Kn Tryz.prog:=⟨116,[zY,vi 0],.tup [.agg [vi 2,vs ⟨#[112]⟩,vi 0],vi 1],zye⟩
theorem zyf:zf Tryz.prog 115 [zY,vi 0] (.tup [vi 0,vb false]):=zm (x:=xtK [kw0,kw1,kw2,kw3,kw4,kw5,kw6,kw7,kw8,kw9,yg,yh,yi,yl,yp,yu,yx,yA,yF,yM,yQ,yT,yY,y9,qi,qn,qw,qA,qC,qE,qO,qZ,kj,kp,kC,kW,kZ,jn,jF,jO,j6,Zq,ZS,Z8,Yl,Qa,Qz,Ka,K5,JR,XS,W5,zbo,zdc,zfG,ziE]) (l:=z4) (fl:=zH) (wk:=zI) (lim:=900) (n:=60) (by decide +kernel)
def zmv:Kn Tryz.prog:=⟨115,[zY,vi 0],.tup [vi 0,vb false],zyf⟩
def ziH:V:=.slc 1 [[.c (.int .u8 112)],[.c (.int .u8 123)],[.c (.int .u8 98)],[.c (.int .u8 114)],[.c (.int .u8 101)],[.c (.int .u8 97)],[.c (.int .u8 107)],[.c (.int .u8 45)],[.c (.int .u8 98)],[.c (.int .u8 101)],[.c (.int .u8 102)],[.c (.int .u8 111)],[.c (.int .u8 114)],[.c (.int .u8 101)],[.c (.int .u8 58)],[.c (.int .u8 108)],[.c (.int .u8 101)],[.c (.int .u8 102)],[.c (.int .u8 116)],[.c (.int .u8 125)],[.c (.int .u8 32)],[.c (.int .u8 112)],[.c (.int .u8 123)],[.c (.int .u8 98)],[.c (.int .u8 114)],[.c (.int .u8 101)],[.c (.int .u8 97)],[.c (.int .u8 107)],[.c (.int .u8 45)],[.c (.int .u8 98)],[.c (.int .u8 101)],[.c (.int .u8 102)],[.c (.int .u8 111)],[.c (.int .u8 114)],[.c (.int .u8 101)],[.c (.int .u8 58)],[.c (.int .u8 120)],[.c (.int .u8 59)],[.c (.int .u8 112)],[.c (.int .u8 97)],[.c (.int .u8 103)],[.c (.int .u8 101)],[.c (.int .u8 58)],[.c (.int .u8 97)],[.c (.int .u8 125)]]
theorem zyg:zf Tryz.prog 114 [ziH] (zY):=zm (x:=xtK [kw0,kw1,kw2,kw3,kw4,kw5,kw6,kw7,kw8,kw9,yg,yh,yi,yl,yp,yu,yx,yA,yF,yM,yQ,yT,yY,y9,qi,qn,qw,qA,qC,qE,qO,qZ,kj,kp,kC,kW,kZ,jn,jF,jO,j6,Zq,ZS,Z8,Yl,Qa,Qz,Ka,K5,JR,XS,W5,zbo,zdc,zfG,ziE,zmv]) (l:=z4) (fl:=zH) (wk:=zI) (lim:=900) (n:=60) (by decide +kernel)
def zr5:Kn Tryz.prog:=⟨114,[ziH],zY,zyg⟩
def zw3:V:=.tup [.slc 3 [[vi 2,vs ⟨#[112]⟩,vi 0],[vi 12,vs ⟨#[123]⟩,vi 0],[vi 2,vs ⟨#[98,114,101,97,107,45,98,101,102,111,114,101]⟩,vi 0],[vi 14,vs ⟨#[]⟩,vi 0],[vi 2,vs ⟨#[108,101,102,116]⟩,vi 0],[vi 13,vs ⟨#[125]⟩,vi 0],[vi 1,vs ⟨#[]⟩,vi 0],[vi 2,vs ⟨#[112]⟩,vi 0],[vi 12,vs ⟨#[123]⟩,vi 0],[vi 2,vs ⟨#[98,114,101,97,107,45,98,101,102,111,114,101]⟩,vi 0],[vi 14,vs ⟨#[]⟩,vi 0],[vi 2,vs ⟨#[120]⟩,vi 0],[vi 15,vs ⟨#[]⟩,vi 0],[vi 2,vs ⟨#[112,97,103,101]⟩,vi 0],[vi 14,vs ⟨#[]⟩,vi 0],[vi 2,vs ⟨#[97]⟩,vi 0],[vi 13,vs ⟨#[125]⟩,vi 0]],vi 0]
theorem zyh:zf Tryz.prog 90 [ziH] (zw3):=zm (x:=xtK [kw0,kw1,kw2,kw3,kw4,kw5,kw6,kw7,kw8,kw9,yg,yh,yi,yl,yp,yu,yx,yA,yF,yM,yQ,yT,yY,y9,qi,qn,qw,qA,qC,qE,qO,qZ,kj,kp,kC,kW,kZ,jn,jF,jO,j6,Zq,ZS,Z8,Yl,Qa,Qz,Ka,K5,JR,XS,W5,zbo,zdc,zfG,ziE,zmv,zr5]) (l:=z4) (fl:=zH) (wk:=zI) (lim:=900) (n:=60) (by decide +kernel)
def zvG:Kn Tryz.prog:=⟨90,[ziH],zw3,zyh⟩
def zw4:V:=.tup [.slc 4 [[vi 1,.slc 3 [[vi 2,vs ⟨#[112]⟩,vi 0]],.slc 3 [[vs ⟨#[98,114,101,97,107,45,98,101,102,111,114,101]⟩,.slc 3 [[vi 2,vs ⟨#[108,101,102,116]⟩,vi 0]],vb false]],zD],[vi 1,.slc 3 [[vi 2,vs ⟨#[112]⟩,vi 0]],.slc 3 [[vs ⟨#[98,114,101,97,107,45,98,101,102,111,114,101]⟩,.slc 3 [[vi 2,vs ⟨#[120]⟩,vi 0]],vb false],[vs ⟨#[112,97,103,101]⟩,.slc 3 [[vi 2,vs ⟨#[97]⟩,vi 0]],vb false]],zD]],vi 0]
theorem zyi:zf Tryz.prog 56 [ziH] (zw4):=zm (x:=xtK [kw0,kw1,kw2,kw3,kw4,kw5,kw6,kw7,kw8,kw9,yg,yh,yi,yl,yp,yu,yx,yA,yF,yM,yQ,yT,yY,y9,qi,qn,qw,qA,qC,qE,qO,qZ,kj,kp,kC,kW,kZ,jn,jF,jO,j6,Zq,ZS,Z8,Yl,Qa,Qz,Ka,K5,JR,XS,W5,zbo,zdc,zfG,ziE,zmv,zr5,zvG]) (l:=z4) (fl:=zH) (wk:=zI) (lim:=900) (n:=60) (by decide +kernel)
def zwW:Kn Tryz.prog:=⟨56,[ziH],zw4,zyi⟩
def zw5:V:=vs ⟨#[112,123,98,114,101,97,107,45,98,101,102,111,114,101,58,108,101,102,116,125,32,112,123,98,114,101,97,107,45,98,101,102,111,114,101,58,120,59,112,97,103,101,58,97,125]⟩
def zw6:V:=.slc 4 [[vi 1,.slc 3 [[vi 2,vs ⟨#[112]⟩,vi 0]],.slc 3 [[vs ⟨#[98,114,101,97,107,45,98,101,102,111,114,101]⟩,.slc 3 [[vi 2,vs ⟨#[108,101,102,116]⟩,vi 0]],vb false]],zD],[vi 1,.slc 3 [[vi 2,vs ⟨#[112]⟩,vi 0]],.slc 3 [[vs ⟨#[98,114,101,97,107,45,98,101,102,111,114,101]⟩,.slc 3 [[vi 2,vs ⟨#[120]⟩,vi 0]],vb false],[vs ⟨#[112,97,103,101]⟩,.slc 3 [[vi 2,vs ⟨#[97]⟩,vi 0]],vb false]],zD]]
theorem zyj:zf Tryz.prog 30 [zw5] (zw6):=zm (x:=xtK [kw0,kw1,kw2,kw3,kw4,kw5,kw6,kw7,kw8,kw9,yg,yh,yi,yl,yp,yu,yx,yA,yF,yM,yQ,yT,yY,y9,qi,qn,qw,qA,qC,qE,qO,qZ,kj,kp,kC,kW,kZ,jn,jF,jO,j6,Zq,ZS,Z8,Yl,Qa,Qz,Ka,K5,JR,XS,W5,zbo,zdc,zfG,ziE,zmv,zr5,zvG,zwW]) (l:=z4) (fl:=zH) (wk:=zI) (lim:=900) (n:=60) (by decide +kernel)
def zxs:Kn Tryz.prog:=⟨30,[zw5],zw6,zyj⟩
theorem zlw:zf Tryz.prog 12 [] (vb true):=zm (x:=xtK [kw0,kw1,kw2,kw3,kw4,kw5,kw6,kw7,kw8,kw9,yg,yh,yi,yl,yp,yu,yx,yA,yF,yM,yQ,yT,yY,y9,qi,qn,qw,qA,qC,qE,qO,qZ,kj,kp,kC,kW,kZ,jn,jF,jO,j6,Zq,ZS,Z8,Yl,Qa,Qz,Ka,K5,JR,XS,W5,zbo,zdc,zfG,ziE,zmv,zr5,zvG,zwW,zxs]) (l:=z4) (fl:=zH) (wk:=zI) (lim:=900) (n:=60) (by decide +kernel)
end Go.Proofs.YtjcmoedalneldaaGreat
