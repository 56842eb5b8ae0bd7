/- Part of the proof of ContextOthers. No condition. -/
import Derived.Test.YtlaopdfpncckeaaGreatDoorKn
import Derived.Test.YtlaopdfpncckeaaGreatDoorProg
namespace Go.Proofs.YtlaopdfpncckeaaGreatDoor
open Go.Sx
set_option maxRecDepth 100000
noncomputable def feK (k:Nat)(h:(zq Tryz.prog k).isSome=true):Fe Tryz.prog:=⟨k,(zq Tryz.prog k).get h,(Option.some_get h).symm⟩
noncomputable def zr:List (Fe Tryz.prog):=[feK 8 (by decide +kernel),feK 9 (by decide +kernel),feK 12 (by decide +kernel),feK 25 (by decide +kernel),feK 23 (by decide +kernel),feK 26 (by decide +kernel),feK 27 (by decide +kernel),feK 28 (by decide +kernel),feK 29 (by decide +kernel),feK 32 (by decide +kernel),feK 34 (by decide +kernel),feK 35 (by decide +kernel),feK 36 (by decide +kernel),feK 37 (by decide +kernel),feK 38 (by decide +kernel),feK 39 (by decide +kernel),feK 40 (by decide +kernel),feK 62 (by decide +kernel),feK 58 (by decide +kernel),feK 59 (by decide +kernel),feK 60 (by decide +kernel),feK 63 (by decide +kernel),feK 64 (by decide +kernel),feK 65 (by decide +kernel),feK 66 (by decide +kernel),feK 67 (by decide +kernel),feK 68 (by decide +kernel),feK 72 (by decide +kernel),feK 73 (by decide +kernel),feK 74 (by decide +kernel),feK 75 (by decide +kernel),feK 76 (by decide +kernel),feK 77 (by decide +kernel),feK 78 (by decide +kernel),feK 80 (by decide +kernel),feK 89 (by decide +kernel),feK 51 (by decide +kernel),feK 90 (by decide +kernel),feK 91 (by decide +kernel),feK 92 (by decide +kernel),feK 93 (by decide +kernel),feK 94 (by decide +kernel),feK 88 (by decide +kernel),feK 95 (by decide +kernel),feK 96 (by decide +kernel),feK 97 (by decide +kernel),feK 98 (by decide +kernel),feK 100 (by decide +kernel),feK 101 (by decide +kernel),feK 102 (by decide +kernel),feK 103 (by decide +kernel),feK 104 (by decide +kernel),feK 105 (by decide +kernel),feK 106 (by decide +kernel),feK 107 (by decide +kernel),feK 108 (by decide +kernel),feK 109 (by decide +kernel),feK 112 (by decide +kernel),feK 113 (by decide +kernel),feK 114 (by decide +kernel),feK 86 (by decide +kernel),feK 87 (by decide +kernel),feK 115 (by decide +kernel),feK 52 (by decide +kernel),feK 116 (by decide +kernel),feK 81 (by decide +kernel),feK 117 (by decide +kernel),feK 111 (by decide +kernel),feK 118 (by decide +kernel),feK 119 (by decide +kernel),feK 120 (by decide +kernel),feK 121 (by decide +kernel),feK 122 (by decide +kernel),feK 123 (by decide +kernel),feK 124 (by decide +kernel),feK 125 (by decide +kernel),feK 126 (by decide +kernel),feK 127 (by decide +kernel),feK 128 (by decide +kernel),feK 129 (by decide +kernel),feK 134 (by decide +kernel),feK 135 (by decide +kernel),feK 136 (by decide +kernel),feK 137 (by decide +kernel),feK 138 (by decide +kernel),feK 139 (by decide +kernel),feK 140 (by decide +kernel),feK 141 (by decide +kernel),feK 142 (by decide +kernel),feK 143 (by decide +kernel),feK 144 (by decide +kernel),feK 145 (by decide +kernel),feK 84 (by decide +kernel),feK 146 (by decide +kernel),feK 147 (by decide +kernel),feK 131 (by decide +kernel),feK 148 (by decide +kernel),feK 149 (by decide +kernel),feK 150 (by decide +kernel),feK 151 (by decide +kernel),feK 152 (by decide +kernel),feK 153 (by decide +kernel),feK 160 (by decide +kernel),feK 161 (by decide +kernel),feK 162 (by decide +kernel),feK 163 (by decide +kernel),feK 164 (by decide +kernel),feK 165 (by decide +kernel),feK 166 (by decide +kernel),feK 167 (by decide +kernel),feK 168 (by decide +kernel),feK 169 (by decide +kernel),feK 170 (by decide +kernel),feK 171 (by decide +kernel),feK 172 (by decide +kernel),feK 176 (by decide +kernel),feK 177 (by decide +kernel)]
def zm:List Nat:=[8,32,65,66,72,73,76,77,78,93,94,95,97,98,104,105,106,107,108,87,81,117,118,119,120,121,122,123,124,125,129,135,136,138,139,141,142,144,147,152,160,161,162,163,166,167,168,169,176]
def zn:List Nat:=[37,74,75,103,170,171]
def lw0:V:=.agg [vs ⟨#[99,111,110,116,101,110,116]⟩,.slc 3 [[vi 6,vs ⟨#[120]⟩,vi 0]],vb false]
theorem tw0:ze Tryz.prog 73 [vi 3,lw0] (vb false):=zg (x:=xtK []) (l:=zr) (fl:=zm) (wk:=zn) (lim:=900) (n:=60) (by decide +kernel)
def kw0:Kn Tryz.prog:=⟨73,[vi 3,lw0],vb false,tw0⟩
def lw1:V:=.agg [vs ⟨#[99,111,108,111,114]⟩,.slc 3 [[vi 2,vs ⟨#[114,101,100]⟩,vi 0]],vb false]
theorem tw1:ze Tryz.prog 73 [vi 3,lw1] (vb false):=zg (x:=xtK []) (l:=zr) (fl:=zm) (wk:=zn) (lim:=900) (n:=60) (by decide +kernel)
def kw1:Kn Tryz.prog:=⟨73,[vi 3,lw1],vb false,tw1⟩
def lw2:V:=.agg [vi 2,.slc 3 [],.slc 3 [[vs ⟨#[99,111,108,111,114]⟩,.slc 3 [[vi 2,vs ⟨#[114,101,100]⟩,vi 0]],vb false]],.slc 2 [[vs ⟨#[116,111,112,45,108,101,102,116]⟩,.slc 3 [[vs ⟨#[99,111,110,116,101,110,116]⟩,.slc 3 [[vi 6,vs ⟨#[120]⟩,vi 0]],vb false]]]]]
theorem tw2:ze Tryz.prog 102 [lw2,.agg [vi 1,vb false,vb false,vb false,vs ⟨#[]⟩,vi 0]] (.tup [.agg [vi 0,vi 0,vi 0],vb true]):=zg (x:=xtK []) (l:=zr) (fl:=zm) (wk:=zn) (lim:=900) (n:=60) (by decide +kernel)
def kw2:Kn Tryz.prog:=⟨102,[lw2,.agg [vi 1,vb false,vb false,vb false,vs ⟨#[]⟩,vi 0]],.tup [.agg [vi 0,vi 0,vi 0],vb true],tw2⟩
def lw3:V:=.slc 1 [[.slc 4 [[vi 2,.slc 3 [],.slc 3 [[vs ⟨#[99,111,108,111,114]⟩,.slc 3 [[vi 2,vs ⟨#[114,101,100]⟩,vi 0]],vb false]],.slc 2 [[vs ⟨#[116,111,112,45,108,101,102,116]⟩,.slc 3 [[vs ⟨#[99,111,110,116,101,110,116]⟩,.slc 3 [[vi 6,vs ⟨#[120]⟩,vi 0]],vb false]]]]]]]]
def lw4:V:=.tup [.agg [vs ⟨#[]⟩,zB,vb false],.agg [vi 0,vi 0,vi 0,vi 0,vi 0],vb false]
theorem tw3:ze Tryz.prog 35 [lw3,.agg [vi 1,vb false,vb false,vb false,vs ⟨#[]⟩,vi 0],vi 1,vi 3] (lw4):=zg (x:=xtK [kw0,kw1,kw2]) (l:=zr) (fl:=zm) (wk:=zn) (lim:=900) (n:=60) (by decide +kernel)
def kw3:Kn Tryz.prog:=⟨35,[lw3,.agg [vi 1,vb false,vb false,vb false,vs ⟨#[]⟩,vi 0],vi 1,vi 3],lw4,tw3⟩
theorem tw4:ze Tryz.prog 73 [vi 2,lw0] (vb false):=zg (x:=xtK []) (l:=zr) (fl:=zm) (wk:=zn) (lim:=900) (n:=60) (by decide +kernel)
def kw4:Kn Tryz.prog:=⟨73,[vi 2,lw0],vb false,tw4⟩
theorem tw5:ze Tryz.prog 73 [vi 2,lw1] (vb false):=zg (x:=xtK []) (l:=zr) (fl:=zm) (wk:=zn) (lim:=900) (n:=60) (by decide +kernel)
def kw5:Kn Tryz.prog:=⟨73,[vi 2,lw1],vb false,tw5⟩
theorem tw6:ze Tryz.prog 35 [lw3,.agg [vi 1,vb false,vb false,vb false,vs ⟨#[]⟩,vi 0],vi 1,vi 2] (lw4):=zg (x:=xtK [kw0,kw1,kw2,kw4,kw5]) (l:=zr) (fl:=zm) (wk:=zn) (lim:=900) (n:=60) (by decide +kernel)
def kw6:Kn Tryz.prog:=⟨35,[lw3,.agg [vi 1,vb false,vb false,vb false,vs ⟨#[]⟩,vi 0],vi 1,vi 2],lw4,tw6⟩
theorem tw7:ze Tryz.prog 73 [vi 1,lw0] (vb false):=zg (x:=xtK []) (l:=zr) (fl:=zm) (wk:=zn) (lim:=900) (n:=60) (by decide +kernel)
def kw7:Kn Tryz.prog:=⟨73,[vi 1,lw0],vb false,tw7⟩
theorem tw8:ze Tryz.prog 73 [vi 1,lw1] (vb true):=zg (x:=xtK []) (l:=zr) (fl:=zm) (wk:=zn) (lim:=900) (n:=60) (by decide +kernel)
def kw8:Kn Tryz.prog:=⟨73,[vi 1,lw1],vb true,tw8⟩
theorem tw9:ze Tryz.prog 35 [lw3,.agg [vi 1,vb false,vb false,vb false,vs ⟨#[]⟩,vi 0],vi 1,vi 1] (lw4):=zg (x:=xtK [kw0,kw1,kw2,kw4,kw5,kw7,kw8]) (l:=zr) (fl:=zm) (wk:=zn) (lim:=900) (n:=60) (by decide +kernel)
def kw9:Kn Tryz.prog:=⟨35,[lw3,.agg [vi 1,vb false,vb false,vb false,vs ⟨#[]⟩,vi 0],vi 1,vi 1],lw4,tw9⟩
theorem zAP:ze Tryz.prog 73 [vi 0,lw0] (vb true):=zg (x:=xtK []) (l:=zr) (fl:=zm) (wk:=zn) (lim:=900) (n:=60) (by decide +kernel)
def jO:Kn Tryz.prog:=⟨73,[vi 0,lw0],vb true,zAP⟩
theorem zAQ:ze Tryz.prog 73 [vi 0,lw1] (vb false):=zg (x:=xtK []) (l:=zr) (fl:=zm) (wk:=zn) (lim:=900) (n:=60) (by decide +kernel)
def jP:Kn Tryz.prog:=⟨73,[vi 0,lw1],vb false,zAQ⟩
def lw5:V:=.tup [.agg [vs ⟨#[99,111,110,116,101,110,116]⟩,.slc 3 [[vi 6,vs ⟨#[120]⟩,vi 0]],vb false],.agg [vi 0,vi 0,vi 0,vi 0,vi 1],vb true]
theorem zAR:ze Tryz.prog 35 [lw3,.agg [vi 1,vb false,vb false,vb false,vs ⟨#[]⟩,vi 0],vi 1,vi 0] (lw5):=zg (x:=xtK [kw0,kw1,kw2,kw4,kw5,kw7,kw8,jO,jP]) (l:=zr) (fl:=zm) (wk:=zn) (lim:=900) (n:=60) (by decide +kernel)
def zwx:Kn Tryz.prog:=⟨35,[lw3,.agg [vi 1,vb false,vb false,vb false,vs ⟨#[]⟩,vi 0],vi 1,vi 0],lw5,zAR⟩
theorem zAS:ze Tryz.prog 72 [vi 9,lw0] (vb false):=zg (x:=xtK []) (l:=zr) (fl:=zm) (wk:=zn) (lim:=900) (n:=60) (by decide +kernel)
def j5:Kn Tryz.prog:=⟨72,[vi 9,lw0],vb false,zAS⟩
theorem zAT:ze Tryz.prog 72 [vi 9,lw1] (vb false):=zg (x:=xtK []) (l:=zr) (fl:=zm) (wk:=zn) (lim:=900) (n:=60) (by decide +kernel)
def j6:Kn Tryz.prog:=⟨72,[vi 9,lw1],vb false,zAT⟩
theorem zAU:ze Tryz.prog 35 [lw3,.agg [vi 1,vb false,vb false,vb false,vs ⟨#[]⟩,vi 0],vi (-1),vi 9] (lw4):=zg (x:=xtK [kw0,kw1,kw2,kw4,kw5,kw7,kw8,jO,jP,j5,j6]) (l:=zr) (fl:=zm) (wk:=zn) (lim:=900) (n:=60) (by decide +kernel)
def zwy:Kn Tryz.prog:=⟨35,[lw3,.agg [vi 1,vb false,vb false,vb false,vs ⟨#[]⟩,vi 0],vi (-1),vi 9],lw4,zAU⟩
theorem zAV:ze Tryz.prog 72 [vi 8,lw0] (vb false):=zg (x:=xtK []) (l:=zr) (fl:=zm) (wk:=zn) (lim:=900) (n:=60) (by decide +kernel)
def ZD:Kn Tryz.prog:=⟨72,[vi 8,lw0],vb false,zAV⟩
theorem zAW:ze Tryz.prog 72 [vi 8,lw1] (vb true):=zg (x:=xtK []) (l:=zr) (fl:=zm) (wk:=zn) (lim:=900) (n:=60) (by decide +kernel)
def ZE:Kn Tryz.prog:=⟨72,[vi 8,lw1],vb true,zAW⟩
def lw6:V:=.tup [.agg [vs ⟨#[99,111,108,111,114]⟩,.slc 3 [[vi 2,vs ⟨#[114,101,100]⟩,vi 0]],vb false],.agg [vi 0,vi 0,vi 0,vi 0,vi 0],vb true]
theorem zAX:ze Tryz.prog 35 [lw3,.agg [vi 1,vb false,vb false,vb false,vs ⟨#[]⟩,vi 0],vi (-1),vi 8] (lw6):=zg (x:=xtK [kw0,kw1,kw2,kw4,kw5,kw7,kw8,jO,jP,j5,j6,ZD,ZE]) (l:=zr) (fl:=zm) (wk:=zn) (lim:=900) (n:=60) (by decide +kernel)
def zwz:Kn Tryz.prog:=⟨35,[lw3,.agg [vi 1,vb false,vb false,vb false,vs ⟨#[]⟩,vi 0],vi (-1),vi 8],lw6,zAX⟩
theorem zAY:ze Tryz.prog 72 [vi 7,lw0] (vb false):=zg (x:=xtK []) (l:=zr) (fl:=zm) (wk:=zn) (lim:=900) (n:=60) (by decide +kernel)
def Z0:Kn Tryz.prog:=⟨72,[vi 7,lw0],vb false,zAY⟩
theorem zAZ:ze Tryz.prog 72 [vi 7,lw1] (vb false):=zg (x:=xtK []) (l:=zr) (fl:=zm) (wk:=zn) (lim:=900) (n:=60) (by decide +kernel)
def Z1:Kn Tryz.prog:=⟨72,[vi 7,lw1],vb false,zAZ⟩
theorem zA0:ze Tryz.prog 35 [lw3,.agg [vi 1,vb false,vb false,vb false,vs ⟨#[]⟩,vi 0],vi (-1),vi 7] (lw4):=zg (x:=xtK [kw0,kw1,kw2,kw4,kw5,kw7,kw8,jO,jP,j5,j6,ZD,ZE,Z0,Z1]) (l:=zr) (fl:=zm) (wk:=zn) (lim:=900) (n:=60) (by decide +kernel)
def zwA:Kn Tryz.prog:=⟨35,[lw3,.agg [vi 1,vb false,vb false,vb false,vs ⟨#[]⟩,vi 0],vi (-1),vi 7],lw4,zA0⟩
theorem zA1:ze Tryz.prog 72 [vi 6,lw0] (vb false):=zg (x:=xtK []) (l:=zr) (fl:=zm) (wk:=zn) (lim:=900) (n:=60) (by decide +kernel)
def Yi:Kn Tryz.prog:=⟨72,[vi 6,lw0],vb false,zA1⟩
theorem zA2:ze Tryz.prog 72 [vi 6,lw1] (vb false):=zg (x:=xtK []) (l:=zr) (fl:=zm) (wk:=zn) (lim:=900) (n:=60) (by decide +kernel)
def Yj:Kn Tryz.prog:=⟨72,[vi 6,lw1],vb false,zA2⟩
theorem zA3:ze Tryz.prog 35 [lw3,.agg [vi 1,vb false,vb false,vb false,vs ⟨#[]⟩,vi 0],vi (-1),vi 6] (lw4):=zg (x:=xtK [kw0,kw1,kw2,kw4,kw5,kw7,kw8,jO,jP,j5,j6,ZD,ZE,Z0,Z1,Yi,Yj]) (l:=zr) (fl:=zm) (wk:=zn) (lim:=900) (n:=60) (by decide +kernel)
def zwB:Kn Tryz.prog:=⟨35,[lw3,.agg [vi 1,vb false,vb false,vb false,vs ⟨#[]⟩,vi 0],vi (-1),vi 6],lw4,zA3⟩
end Go.Proofs.YtlaopdfpncckeaaGreatDoor
