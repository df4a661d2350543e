/- Texts for DeviceHonest, part 1. Conditions: none. -/
import Derived.Test.YthplailfedobeaaGreatCVc
import Derived.Test.YthplailfedobeaaGreatProg
import Derived.KernelRfl
import Derived.ProofKit
import Derived.WalkKit
import Derived.WalkSpells
import Derived.Lib.Hide
set_option linter.unusedSimpArgs false
set_option linter.unusedVariables false
set_option linter.unusedSectionVars false
attribute [go_sem] Go.Vm.V.s.injEq Go.Value.bool.injEq List.append_assoc List.length_append Go.Vm.aM Go.Vm.bN Go.Vm.bh Go.Vm.aX Go.Vm.bw Go.Vm.bb Nat.le_refl Nat.le_add_right Go.Vm.AH
namespace Go.Proofs.YthplailfedobeaaGreat
open Go Go.Vm Go.Proofs
def ob :Nat→Bool:=fun t=>([37,40,73,78,103,107,113,141,196,199,1000004,1000005,1000006,1000008,1000009,1000011,1000013,1000014,1000015,1000019,1000021,1000022,1000024,1000026,1000033,1000035,1000036,1000040,1000044,1000046,1000048,1000049,1000052,1000055,1000072,1000073,1000075,1000076,1000081,1000086,1000087,1000088,1000092,1000103,1000104,1000121,1000128,1000137,1000167,1000168,1000169,1000170]:List Nat).any fun u=> t==u
def ob2 :Nat→Bool:=fun t=> ob t || ([4000042,5000042]:List Nat).any fun u=> t==u
def ob3 :Nat→Bool:=fun t=> ob t || ([59]:List Nat).any fun u=> t==u
def Ur :Go.Vm.C:=(.loop (.seq (.seq (.af [gm 33 7,gm 34 0,ga 35 .len [.t 34],ga 36 (.bin .num .lss) [.t 33,.t 35],gm 37 36,gw 37 true 38 .mv [.t 7],gw 37 true 39 (.bin .num .lss) [.t 38,kc 60],ga 40 .pick [.t 37,.t 39,kb false]]) (.cond (.t 40) .skip (.exit 0))) (.seq (.block 1 (.seq (.af [gm 43 0,gm 44 7,ga 45 (.de (some 48)) [.t 43,.t 44],ga 46 (.ld (some 48)) [.t 45],ga 8 (.eS (some 48) (.st 48 [ki,ki,ki,(.st 46 [ki,ki,ki,ku,(.st 43 [ki,ki,ki,ki,ki,ki,ku,kx]),(.al false (some 43) [])])])) [],gn (.aY (some 48)) [.t 8,.t 46]]) (.seq (.seq (.af [ga 47 (.fa 48 0) [.t 8],ga 48 (.ld none) [.t 47]]) (.block 2 (.seq (.af [ga 91 (.bin .num .eql) [.t 48,kc 6],gm 90 91]) (.cond (.t 90) (.bL [gl 0 1 (gm 92 3),gl 0 0 (ga 93 (.fa 48 1) [.t 8]),gl 0 0 (ga 94 (.ld none) [.t 93]),gl 0 1 (ga 95 (.call 7) [.t 94,kc (-1),kc 12]),gl 0 1 (ga 96 (.fa 48 2) [.t 8]),gl 0 1 (ga 97 (.ld none) [.t 96]),gl 1 2 (ga 98 (.call 6) [.t 92,.t 95,.t 97])]) (.seq (.af [ga 100 (.bin .num .eql) [.t 48,kc 7],gm 99 100]) (.cond (.t 99) (.af [gm 101 3,ga 102 (.call 8) [.t 101]]) (.seq (.seq (.af [ga 104 (.bin .num .eql) [.t 48,kc 8],gm 103 104]) (.cond (.t 103) .skip (.af [ga 105 (.bin .num .eql) [.t 48,kc 9],gm 103 105]))) (.cond (.t 103) (.seq (.af [gm 106 3,ga 107 (.call 9) [.t 106],gm 9 107]) (.seq (.af [gm 108 3,ga 109 (.call 10) [.t 108],ga 110 (.bin .num .eql) [.t 109,kc 3],gm 111 110,gw 111 false 112 .mv [.t 9],gw 111 false 113 (.bin .num .neq) [.t 112,kc 0],gw 111 false 114 .mv [.t 113],gw 114 true 115 .mv [.t 9],gw 114 true 116 (.bin .num .neq) [.t 115,kc 14],gw 111 false 117 .pick [.t 114,.t 116,kb false],gw 111 false 118 .mv [.t 117],gw 118 true 119 .mv [.t 9],gw 118 true 120 (.bin .num .neq) [.t 119,kc 29],gw 111 false 121 .pick [.t 118,.t 120,kb false],ga 122 .pick [.t 111,kb true,.t 121]]) (.cond (.t 122) (.seq (.af [ga 2 .mv [kb false]]) .ret) .skip))) (.seq (.af [gm 49 6,ga 50 (.fa 48 3) [.t 8],ga 51 (.ld (some 46)) [.t 50],ga 52 (.call 11) [.t 49,.t 51],ga 10 (.eS (some 59) (.st 59 [ki,ki,ki,ku,(.st 56 [(z4 54),ku,(bC 27),kx,ki,ki,(bC 27),(.s (.bool false)),(.s (.bool false))]),(.al false (some 56) [])])) [],gn (.aY (some 59)) [.t 10,.t 52]]) (.seq (.af [gm 53 3,ga 54 (.call 12) [.t 53],ga 55 (.fld 35 1) [.t 54],gm 11 55]) (.seq (.af [gm 56 3,ga 57 (.ld (some 59)) [.t 10],ga 58 (.call 13) [.t 56,.t 57],gm 12 58]) (.seq (.af [gm 59 3,ga 60 (.call 12) [.t 59],ga 61 (.fld 35 1) [.t 60],gm 13 61]) (.seq (.seq (.af [gm 62 13,gm 63 11,ga 64 (.bin .num .add) [.t 63,(.c (.s (.int .u64 1)))],ga 65 (.bin .num .gtr) [.t 62,.t 64],gm 66 65,gw 66 false 67 .mv [.t 13],gw 66 false 68 .mv [.t 11],gw 66 false 69 (.bin .num .lss) [.t 67,.t 68],ga 70 .pick [.t 66,kb true,.t 69],gm 71 70,gw 71 false 72 .mv [.t 12],gw 71 false 73 (.bin .num .eql) [.t 72,kc 0],gw 71 false 74 .mv [.t 73],gw 74 true 75 .mv [.t 13],gw 74 true 76 .mv [.t 11],gw 74 true 77 (.bin .num .add) [.t 76,(.c (.s (.int .u64 1)))],gw 74 true 78 (.bin .num .neq) [.t 75,.t 77],gw 71 false 79 .pick [.t 74,.t 78,kb false],ga 80 .pick [.t 71,kb true,.t 79]]) (.cond (.t 80) (.seq (.af [ga 2 .mv [kb false]]) .ret) .skip)) (.seq (.af [gm 81 13,gm 82 11,ga 83 (.bin .num .gtr) [.t 81,.t 82],gm 84 83,gw 84 true 85 .mv [.t 5],gw 84 true 86 (.ld (some 59)) [.t 10],gw 84 true 87 (.call 14) [.t 85,.t 86],gw 84 true 88 (.bin .num .neq) [.t 87,kc 0],ga 89 .pick [.t 84,.t 88,kb false]]) (.cond (.t 89) (.seq (.af [ga 2 .mv [kb false]]) .ret) .skip))))))))))))))) (.seq (.af [gm 123 3,ga 124 (.call 15) [.t 123],gm 14 124]) (.seq (.bL [gl 0 0 (gm 125 14),gl 0 0 (ga 126 (.bin .ptr .neq) [.t 125,(.c (.s (.pointer none)))]),gl 0 0 (gm 127 126),gl 0 0 (gw 127 true 128 .mv [.t 14]),gl 0 1 (gw 127 true 129 (.call 16) [.t 128]),gl 1 2 (gw 127 true 130 .yp [.t 129]),gl 0 1 (gw 127 true 131 .mv [.t 5]),gl 1 2 (gw 127 true 132 (.call 17) [.t 131]),gl 2 2 (gw 127 true 133 .yp [.t 132]),gl 2 2 (gw 127 true 134 (.bin .num .neq) [.t 130,.t 133]),gl 2 2 (ga 135 .pick [.t 127,.t 134,kb false])]) (.cond (.t 135) (.seq (.af [ga 2 .mv [kb false]]) .ret) .skip)))))) (.af [gm 41 7,ga 42 (.bin .num .add) [.t 41,kc 1],gm 7 42]))))
def Us :Go.Vm.C:=(.seq (.af [gm 136 3,ga 137 (.call 6) [.t 136,kc (-1),kc 0]]) (.seq (.af [gm 138 3,ga 139 (.call 8) [.t 138]]) (.seq (.bL [gl 0 0 (gm 140 3),gl 0 1 (ga 141 (.call 9) [.t 140]),gl 1 1 (ga 142 (.bin .num .eql) [.t 141,kc 0]),gl 1 1 (gm 143 142),gl 1 1 (gw 143 true 144 .mv [.t 3]),gl 1 2 (gw 143 true 145 (.call 15) [.t 144]),gl 2 2 (gw 143 true 146 (.bin .ptr .neq) [.t 145,(.c (.s (.pointer none)))]),gl 2 2 (ga 147 .pick [.t 143,.t 146,kb false]),gl 2 2 (gm 148 147),gl 2 2 (gw 148 true 149 .mv [.t 3]),gl 2 3 (gw 148 true 150 (.call 15) [.t 149]),gl 3 4 (gw 148 true 151 (.call 16) [.t 150]),gl 4 5 (gw 148 true 152 .yp [.t 151]),gl 2 4 (gw 148 true 153 .mv [.t 5]),gl 4 5 (gw 148 true 154 (.call 17) [.t 153]),gl 5 5 (gw 148 true 155 .yp [.t 154]),gl 5 5 (gw 148 true 156 (.bin .num .eql) [.t 152,.t 155]),gl 5 5 (ga 157 .pick [.t 148,.t 156,kb false]),gl 5 5 (gm 158 157),gl 5 6 (gw 158 true 159 (.call 18) []),gl 6 6 (ga 160 .pick [.t 158,.t 159,kb false]),gl 6 6 (gm 2 160)]) .ret)))
def B3 :Go.Vm.C:=(.seq (.af [ga 2 .mv [kb false]]) (.seq (.af [ga 16 (.jD 27 [(.s (.int .u8 0)),(.s (.int .u8 0)),(.s (.int .u8 0)),(.s (.int .u8 0)),(.s (.int .u8 0)),(.s (.int .u8 0)),(.s (.int .u8 0)),(.s (.int .u8 0)),(.s (.int .u8 0)),(.s (.int .u8 0)),(.s (.int .u8 0)),(.s (.int .u8 0)),(.s (.int .u8 0)),(.s (.int .u8 0)),(.s (.int .u8 0)),(.s (.int .u8 0))] [0]) [(.c (.s (.int .u8 7)))],ga 17 (.call 4) [kc 0,kc 2,.t 16],gm 15 17,ga 18 (.ext 0) [.t 15],ga 19 (.ext 1) [.t 15],gm 3 18,gm 4 19]) (.seq (.af [ga 20 (.call 5) [kc 0,kc 2],gm 5 20]) (.seq (.seq (.af [gm 21 3,ga 22 (.bin .ptr .eql) [.t 21,(.c (.s (.pointer none)))],gm 23 22,gw 23 false 24 .mv [.t 4],gw 23 false 25 (.bin .num .neq) [.t 24,kc 0],ga 26 .pick [.t 23,kb true,.t 25]]) (.cond (.t 26) (.seq (.af [ga 2 .mv [kb false]]) .ret) .skip)) (.seq (.af [gm 27 3,gm 28 5,ga 29 (.dN 37 [ki,ki,(bC 27),ki,(.s (.pointer none)),(.s (.pointer none)),(.st 35 [ku,ku,ku,(bC 27),ki]),ki,ki,ki] [0,1,4]) [kc 0,kc 2,.t 28],ga 30 (.box (some 37)) [.t 29],ga 31 (.dN 40 [(.s (.pointer none)),(.s (.pointer none)),(.s (.pointer none)),(.s (.pointer none))] [0,1]) [.t 27,.t 30],ga 32 (.box (some 40)) [.t 31],gm 6 32]) (.seq (.seq (.af [ga 7 .mv [kc 0]]) (.block 0 Ur)) Us))))))
abbrev F3 :Go.Vm.Fn:=⟨161,B3,[(.t 2)],true⟩
theorem aaC :bH Tryz.prog ob Tryz.f3 true=some F3:=by kernel_rfl
theorem aaD :B3.fits 161=true:=by kernel_rfl
def B4 :Go.Vm.C:=(.seq (.af [ga 5 (.box (some 27)) [.t 2],ga 6 .mv [(.c (.s (.pointer none)))],ga 7 .mv [kc 0]]) (.seq (.af [gm 9 0,gm 10 1,ga 11 (.call 19) [.t 9,.t 10],gm 8 11]) (.seq (.seq (.af [gm 12 8,ga 13 (.bin .ptr .eql) [.t 12,(.c (.s (.pointer none)))]]) (.cond (.t 13) (.seq (.af [ga 6 .mv [(.c (.s (.pointer none)))],ga 7 .mv [kc 1]]) .ret) .skip)) (.seq (.af [gm 14 0,gm 15 1,ga 16 (.ld (some 27)) [.t 5],gm 17 0,ga 18 (.call 20) [.t 16,.t 17],gm 19 8,ga 20 (.call 21) [],ga 21 (.dN 73 [ki,ki,(bC 27),ki,(.s (.pointer none)),(.s (.pointer none)),(.st 35 [ku,ku,ku,(bC 27),ki]),ki,ki,ki] [0,1,2,3,4,5,8]) [.t 14,.t 15,.t 18,kc 1,.t 19,.t 20,kc (-1)],ga 22 (.box (some 73)) [.t 21],gm 6 22,ga 7 .mv [kc 0]]) .ret))))
abbrev F4 :Go.Vm.Fn:=⟨23,B4,[(.t 6),(.t 7)],false⟩
theorem aaE :bH Tryz.prog ob Tryz.f4 false=some F4:=by kernel_rfl
theorem aaF :B4.fits 23=true:=by kernel_rfl
def Ut :Go.Vm.C:=(.loop (.seq (.seq (.af [gm 26 6,ga 27 (.bin .num .lss) [.t 26,kc 16]]) (.cond (.t 27) .skip (.exit 0))) (.seq (.block 1 (.seq (.af [gm 30 5,gm 31 6,ga 32 .aU [.t 30],ga 33 (.fa 78 2) [.t 32],ga 34 (.fg 77) [.t 33,.t 31],ga 35 (.fa 75 1) [.t 34],gn (.aY none) [.t 35,(.c (.s (.int .u64 1)))]]) (.seq (.af [gm 36 6,gm 37 1,ga 38 (.bin .num .rem) [.t 36,.t 37],gm 39 0,ga 40 (.bin .num .eql) [.t 38,.t 39]]) (.cond (.t 40) (.af [gm 41 5,gm 42 6,ga 43 .aU [.t 41],ga 44 (.fa 78 2) [.t 43],ga 45 (.fg 77) [.t 44,.t 42],ga 46 (.fa 75 0) [.t 45],gn (.aY none) [.t 46,kc 1]]) .skip)))) (.af [gm 28 6,ga 29 (.bin .num .add) [.t 28,kc 1],gm 6 29]))))
def Uu :Go.Vm.C:=(.seq (.af [gm 47 5,gm 4 47]) .ret)
def B5 :Go.Vm.C:=(.seq (.af [ga 4 .mv [(.c (.s (.pointer none)))]]) (.seq (.seq (.af [gm 7 1,ga 8 (.bin .num .lss) [.t 7,kc 1],gm 9 8,gw 9 false 10 .mv [.t 1],gw 9 false 11 (.bin .num .gtr) [.t 10,kc 8],ga 12 .pick [.t 9,kb true,.t 11],gm 13 12,gw 13 false 14 .mv [.t 0],gw 13 false 15 (.bin .num .lss) [.t 14,kc 0],ga 16 .pick [.t 13,kb true,.t 15],gm 17 16,gw 17 false 18 .mv [.t 0],gw 17 false 19 .mv [.t 1],gw 17 false 20 (.bin .num .geq) [.t 18,.t 19],ga 21 .pick [.t 17,kb true,.t 20]]) (.cond (.t 21) (.seq (.af [ga 4 .mv [(.c (.s (.pointer none)))]]) .ret) .skip)) (.seq (.af [gm 22 0,gm 23 1,ga 24 (.dN 78 [ki,ki,(.arr 77 [(.st 75 [ki,ku,ki,(.al true (some 56) [])]),(.st 75 [ki,ku,ki,(.al true (some 56) [])]),(.st 75 [ki,ku,ki,(.al true (some 56) [])]),(.st 75 [ki,ku,ki,(.al true (some 56) [])]),(.st 75 [ki,ku,ki,(.al true (some 56) [])]),(.st 75 [ki,ku,ki,(.al true (some 56) [])]),(.st 75 [ki,ku,ki,(.al true (some 56) [])]),(.st 75 [ki,ku,ki,(.al true (some 56) [])]),(.st 75 [ki,ku,ki,(.al true (some 56) [])]),(.st 75 [ki,ku,ki,(.al true (some 56) [])]),(.st 75 [ki,ku,ki,(.al true (some 56) [])]),(.st 75 [ki,ku,ki,(.al true (some 56) [])]),(.st 75 [ki,ku,ki,(.al true (some 56) [])]),(.st 75 [ki,ku,ki,(.al true (some 56) [])]),(.st 75 [ki,ku,ki,(.al true (some 56) [])]),(.st 75 [ki,ku,ki,(.al true (some 56) [])])])] [0,1]) [.t 22,.t 23],ga 25 (.box (some 78)) [.t 24],gm 5 25]) (.seq (.seq (.af [ga 6 .mv [kc 0]]) (.block 0 Ut)) Uu))))
abbrev F5 :Go.Vm.Fn:=⟨48,B5,[(.t 4)],false⟩
theorem aaG :bH Tryz.prog ob Tryz.f5 false=some F5:=by kernel_rfl
theorem aaH :B5.fits 48=true:=by kernel_rfl
def B6 :Go.Vm.C:=(.af [gm 6 0,gm 7 0,gm 8 1,ga 9 .max [.t 8,kc (-1)],gm 10 2,ga 11 .aU [.t 6],ga 12 (.fa 73 8) [.t 11],gn (.aY none) [.t 12,.t 9],ga 13 .aU [.t 7],ga 14 (.fa 73 9) [.t 13],gn (.aY none) [.t 14,.t 10]])
abbrev F6 :Go.Vm.Fn:=⟨15,B6,[],false⟩
theorem aaI :bH Tryz.prog ob Tryz.f6 false=some F6:=by kernel_rfl
theorem aaJ :B6.fits 15=true:=by kernel_rfl
def B7 :Go.Vm.C:=(.seq (.af [ga 6 .mv [kc 0]]) (.seq (.seq (.af [gm 7 0,gm 8 1,ga 9 (.bin .num .geq) [.t 7,.t 8],gm 10 9,gw 10 true 11 .mv [.t 0],gw 10 true 12 .mv [.t 2],gw 10 true 13 (.bin .num .leq) [.t 11,.t 12],ga 14 .pick [.t 10,.t 13,kb false]]) (.cond (.t 14) (.seq (.af [gm 15 0,gm 6 15]) .ret) .skip)) (.seq (.af [gm 16 0,gm 17 2,gm 18 1,ga 19 (.bin .num .sub) [.t 17,.t 18],ga 20 (.bin .num .add) [.t 19,kc 1],ga 21 (.bin .num .rem) [.t 16,.t 20],gm 0 21]) (.seq (.seq (.af [gm 22 0,ga 23 (.bin .num .lss) [.t 22,kc 0]]) (.cond (.t 23) (.af [gm 24 0,gm 25 2,ga 26 (.bin .num .add) [.t 24,.t 25],gm 27 1,ga 28 (.bin .num .sub) [.t 26,.t 27],ga 29 (.bin .num .add) [.t 28,kc 1],gm 0 29]) .skip)) (.seq (.af [gm 30 1,gm 31 0,ga 32 (.bin .num .add) [.t 30,.t 31],gm 6 32]) .ret)))))
abbrev F7 :Go.Vm.Fn:=⟨33,B7,[(.t 6)],true⟩
theorem aaK :bH Tryz.prog ob Tryz.f7 true=some F7:=by kernel_rfl
theorem aaL :B7.fits 33=true:=by kernel_rfl
def B8 :Go.Vm.C:=(.seq (.af [gm 2 0,ga 3 .aU [.t 2],ga 4 (.fa 73 3) [.t 3],ga 5 (.ld none) [.t 4],ga 6 (.bin .num .eql) [.t 5,kc 1]]) (.cond (.t 6) (.af [gm 7 0,ga 8 (.call 22) [.t 7,kc 0]]) .skip))
abbrev F8 :Go.Vm.Fn:=⟨9,B8,[],false⟩
theorem aaM :bH Tryz.prog ob Tryz.f8 false=some F8:=by kernel_rfl
theorem aaN :B8.fits 9=true:=by kernel_rfl
def B9 :Go.Vm.C:=(.seq (.af [ga 2 .mv [kc 0]]) (.seq (.seq (.af [gm 5 0,ga 6 .aU [.t 5],ga 7 (.fa 73 3) [.t 6],ga 8 (.ld none) [.t 7]]) (.block 0 (.seq (.af [ga 10 (.bin .num .eql) [.t 8,kc 1],gm 9 10]) (.cond (.t 9) (.seq (.af [ga 2 .mv [kc 14]]) .ret) (.seq (.af [ga 12 (.bin .num .eql) [.t 8,kc 3],gm 11 12]) (.cond (.t 11) (.seq (.af [ga 2 .mv [kc 28]]) .ret) .skip)))))) (.seq (.af [gm 14 0,ga 15 .aU [.t 14],ga 16 (.fa 73 6) [.t 15],ga 17 (.ld (some 35)) [.t 16],ga 18 (.call 23) [.t 17],gm 13 18,ga 19 (.ext 0) [.t 13],ga 20 (.ext 1) [.t 13],ga 3 (.eS (some 35) (.st 35 [ku,ku,ku,(bC 27),ki])) [],gn (.aY (some 35)) [.t 3,.t 19],gm 4 20]) (.seq (.seq (.af [gm 21 4,ga 22 (.un .not) [.t 21]]) (.cond (.t 22) (.seq (.af [ga 2 .mv [kc 31]]) .ret) .skip)) (.seq (.af [gm 23 0,ga 24 (.ld (some 35)) [.t 3],ga 25 .aU [.t 23],ga 26 (.fa 73 6) [.t 25],gn (.aY (some 35)) [.t 26,.t 24]]) (.seq (.seq (.af [gm 28 0,gm 29 0,ga 30 (.call 24) [.t 29],gm 27 30,ga 31 (.ext 0) [.t 27],ga 32 (.ext 1) [.t 27],ga 33 .aU [.t 28],ga 34 (.fa 73 4) [.t 33],gn (.aY none) [.t 34,.t 31],gm 4 32]) (.seq (.af [gm 35 4,ga 36 (.un .not) [.t 35]]) (.cond (.t 36) (.seq (.af [gm 37 0,ga 38 .aU [.t 37],ga 39 (.fa 73 3) [.t 38],gn (.aY none) [.t 39,kc 3]]) (.seq (.af [ga 2 .mv [kc 28]]) .ret)) .skip))) (.seq (.af [gm 40 0,ga 41 .aU [.t 40],ga 42 (.fa 73 3) [.t 41],gn (.aY none) [.t 42,kc 1]]) (.seq (.seq (.af [gm 43 0,ga 44 .aU [.t 43],ga 45 (.fa 73 6) [.t 44],ga 46 (.ld (some 35)) [.t 45],ga 47 (.call 25) [.t 46],ga 48 (.bin .num .eql) [.t 47,kc 8],gm 49 48,gw 49 true 50 .mv [.t 0],gw 49 true 51 (.call 26) [.t 50],gw 49 true 52 (.un .not) [.t 51],ga 53 .pick [.t 49,.t 52,kb false]]) (.cond (.t 53) (.seq (.af [ga 2 .mv [kc 29]]) .ret) .skip)) (.seq (.af [ga 2 .mv [kc 0]]) .ret)))))))))
abbrev F9 :Go.Vm.Fn:=⟨54,B9,[(.t 2)],false⟩
theorem aaO :bH Tryz.prog ob Tryz.f9 false=some F9:=by kernel_rfl
theorem aaP :B9.fits 54=true:=by kernel_rfl
def B10 :Go.Vm.C:=(.seq (.af [ga 2 .mv [kc 0]]) (.seq (.af [gm 3 0,ga 4 .aU [.t 3],ga 5 (.fa 73 3) [.t 4],ga 6 (.ld none) [.t 5],gm 2 6]) .ret))
abbrev F10 :Go.Vm.Fn:=⟨7,B10,[(.t 2)],true⟩
theorem Uv :bH Tryz.prog ob Tryz.f10 true=some F10:=by kernel_rfl
theorem Uw :B10.fits 7=true:=by kernel_rfl
def vB :Go.Vm.C:=(.seq (.af [ga 112 (.ld (some 59)) [.t 5],gn (.aY (some 59)) [.t 4,.t 112]]) .ret)
def B11 :Go.Vm.C:=(.seq (.af [ga 3 (.box (some 46)) [.t 1],ga 4 (.eS (some 59) (.st 59 [ki,ki,ki,ku,(.st 56 [(z4 54),ku,(bC 27),kx,ki,ki,(bC 27),(.s (.bool false)),(.s (.bool false))]),(.al false (some 56) [])])) []]) (.seq (.af [ga 6 (.ld (some 46)) [.t 3],ga 7 (.call 27) [.t 6],ga 5 (.eS (some 59) (.st 59 [ki,ki,ki,ku,(.st 56 [(z4 54),ku,(bC 27),kx,ki,ki,(bC 27),(.s (.bool false)),(.s (.bool false))]),(.al false (some 56) [])])) [],gn (.aY (some 59)) [.t 5,.t 7]]) (.seq (.seq (.af [gm 8 0,ga 9 .aU [.t 8],ga 10 (.fa 40 1) [.t 9],ga 11 (.ld none) [.t 10],ga 12 .aU [.t 11],ga 13 (.fa 37 4) [.t 12],ga 14 (.ld none) [.t 13],ga 15 (.bin .ptr .eql) [.t 14,(.c (.s (.pointer none)))],gm 16 15,gw 16 false 17 (.fa 46 2) [.t 3],gw 16 false 18 (.ld none) [.t 17],gw 16 false 19 (.bin .num .rem) [.t 18,kc 8],gw 16 false 20 (.bin .num .eql) [.t 19,kc 7],ga 21 .pick [.t 16,kb true,.t 20]]) (.cond (.t 21) (.seq (.af [ga 22 (.ld (some 59)) [.t 5],gn (.aY (some 59)) [.t 4,.t 22]]) .ret) .skip)) (.seq (.seq (.af [ga 23 (.fa 59 0) [.t 5],ga 24 (.ld none) [.t 23],ga 25 (.bin .num .eql) [.t 24,kc 2]]) (.cond (.t 25) (.seq (.af [gm 26 0,ga 27 .aU [.t 26],ga 28 (.fa 40 1) [.t 27],ga 29 (.ld none) [.t 28],ga 30 .aU [.t 29],ga 31 (.fa 37 4) [.t 30],ga 32 (.ld none) [.t 31],ga 33 (.fa 59 1) [.t 5],ga 34 (.ld none) [.t 33],ga 35 .aU [.t 32],ga 36 (.fa 78 2) [.t 35],ga 37 (.fg 77) [.t 36,.t 34],ga 38 (.fa 75 1) [.t 37],ga 39 (.ld none) [.t 38],ga 40 (.bin .num .add) [.t 39,(.c (.s (.int .u64 1)))],ga 41 (.fa 59 3) [.t 5],gn (.aY none) [.t 41,.t 40]]) (.af [gm 42 0,ga 43 .aU [.t 42],ga 44 (.fa 40 1) [.t 43],ga 45 (.ld none) [.t 44],ga 46 .aU [.t 45],ga 47 (.fa 37 0) [.t 46],ga 48 (.ld none) [.t 47],ga 49 (.bin .num .add) [.t 48,kc 1],ga 50 (.fa 59 2) [.t 5],ga 51 (.ld none) [.t 50],gm 52 0,ga 53 .aU [.t 52],ga 54 (.fa 40 1) [.t 53],ga 55 (.ld none) [.t 54],ga 56 .aU [.t 55],ga 57 (.fa 37 1) [.t 56],ga 58 (.ld none) [.t 57],ga 59 (.bin .num .sub) [.t 58,kc 1],ga 60 .max [.t 59,kc 1],ga 61 (.bin .num .rem) [.t 51,.t 60],ga 62 (.bin .num .add) [.t 49,.t 61],gm 63 0,ga 64 .aU [.t 63],ga 65 (.fa 40 1) [.t 64],ga 66 (.ld none) [.t 65],ga 67 .aU [.t 66],ga 68 (.fa 37 1) [.t 67],ga 69 (.ld none) [.t 68],ga 70 (.bin .num .rem) [.t 62,.t 69],ga 71 (.fa 59 2) [.t 5],gn (.aY none) [.t 71,.t 70]])) (.seq (.af [ga 72 (.fa 59 0) [.t 5],ga 73 (.ld none) [.t 72],ga 74 (.bin .num .eql) [.t 73,kc 3]]) (.cond (.t 74) (.af [gm 75 0,ga 76 .aU [.t 75],ga 77 (.fa 40 1) [.t 76],ga 78 (.ld none) [.t 77],ga 79 .aU [.t 78],ga 80 (.fa 37 4) [.t 79],ga 81 (.ld none) [.t 80],ga 82 (.fa 59 1) [.t 5],ga 83 (.ld none) [.t 82],ga 84 .aU [.t 81],ga 85 (.fa 78 2) [.t 84],ga 86 (.fg 77) [.t 85,.t 83],ga 87 (.fa 75 1) [.t 86],ga 88 (.ld none) [.t 87],ga 89 (.fa 59 3) [.t 5],ga 90 (.ld none) [.t 89],ga 91 (.bin .num .rem) [.t 90,(.c (.s (.int .u64 3)))],ga 92 (.bin .num .add) [.t 88,.t 91],ga 93 (.fa 59 3) [.t 5],gn (.aY none) [.t 93,.t 92]]) (.seq (.af [ga 94 (.fa 59 0) [.t 5],ga 95 (.ld none) [.t 94],ga 96 (.bin .num .eql) [.t 95,kc 4]]) (.cond (.t 96) (.af [gm 97 0,ga 98 .aU [.t 97],ga 99 (.fa 40 1) [.t 98],ga 100 (.ld none) [.t 99],ga 101 .aU [.t 100],ga 102 (.fa 37 4) [.t 101],ga 103 (.ld none) [.t 102],ga 104 (.fa 59 1) [.t 5],ga 105 (.ld none) [.t 104],ga 106 .aU [.t 103],ga 107 (.fa 78 2) [.t 106],ga 108 (.fg 77) [.t 107,.t 105],ga 109 (.fa 75 1) [.t 108],ga 110 (.ld none) [.t 109],ga 111 (.fa 59 3) [.t 5],gn (.aY none) [.t 111,.t 110]]) .skip)))))) vB))))
abbrev F11 :Go.Vm.Fn:=⟨113,B11,[(.cell 4 (some 59))],false⟩
theorem Ux :bH Tryz.prog ob Tryz.f11 false=some F11:=by kernel_rfl
theorem Uy :B11.fits 113=true:=by kernel_rfl
def B12 :Go.Vm.C:=(.seq (.af [ga 2 (.eS (some 35) (.st 35 [ku,ku,ku,(bC 27),ki])) []]) (.seq (.af [gm 3 0,ga 4 .aU [.t 3],ga 5 (.fa 73 6) [.t 4],ga 6 (.ld (some 35)) [.t 5],gn (.aY (some 35)) [.t 2,.t 6]]) .ret))
abbrev F12 :Go.Vm.Fn:=⟨7,B12,[(.cell 2 (some 35))],true⟩
theorem Uz :bH Tryz.prog ob Tryz.f12 true=some F12:=by kernel_rfl
theorem UA :B12.fits 7=true:=by kernel_rfl
def B13 :Go.Vm.C:=(.seq (.af [ga 3 (.box (some 59)) [.t 1],ga 4 .mv [kc 0]]) (.seq (.seq (.af [gm 11 0,ga 12 (.call 28) [.t 11],gm 5 12]) (.seq (.af [gm 13 5,ga 14 (.bin .num .neq) [.t 13,kc 0]]) (.cond (.t 14) (.seq (.af [gm 15 5,gm 4 15]) .ret) .skip))) (.seq (.seq (.af [gm 16 0,ga 17 .aU [.t 16],ga 18 (.fa 73 4) [.t 17],ga 19 (.ld none) [.t 18],ga 20 (.ld (some 59)) [.t 3],ga 21 (.call 29) [.t 19,.t 20],gm 6 21]) (.seq (.af [gm 22 6,ga 23 (.bin .num .neq) [.t 22,kc 0]]) (.cond (.t 23) (.seq (.af [gm 24 6,gm 4 24]) .ret) .skip))) (.seq (.af [gm 26 0,ga 27 .aU [.t 26],ga 28 (.fa 73 2) [.t 27],ga 29 (.ld (some 27)) [.t 28],gm 30 0,ga 31 .aU [.t 30],ga 32 (.fa 73 6) [.t 31],ga 33 (.fa 35 1) [.t 32],ga 34 (.ld none) [.t 33],ga 35 (.bin .num .add) [.t 34,(.c (.s (.int .u64 1)))],gm 36 0,ga 37 .aU [.t 36],ga 38 (.fa 73 6) [.t 37],ga 39 (.fa 35 3) [.t 38],ga 40 (.ld (some 27)) [.t 39],ga 41 (.ld (some 59)) [.t 3],ga 42 (.call 30) [.t 29,.t 35,.t 40,.t 41],gm 25 42,ga 43 (.ext 0) [.t 25],ga 44 (.ext 1) [.t 25],gm 7 43,gm 8 44]) (.seq (.bL [gl 0 1 (gm 46 0),gl 0 1 (ga 47 .aU [.t 46]),gl 0 1 (ga 48 (.fa 73 6) [.t 47]),gl 0 1 (ga 49 (.ld (some 35)) [.t 48]),gl 0 1 (gm 50 0),gl 0 1 (ga 51 .aU [.t 50]),gl 0 1 (ga 52 (.fa 73 6) [.t 51]),gl 0 1 (ga 53 (.fa 35 3) [.t 52]),gl 0 1 (ga 54 (.ld (some 27)) [.t 53]),gl 0 1 (gm 55 7),gl 0 1 (ga 56 (.mA 32) [.t 54,.t 55]),gl 0 1 (ga 57 (.mA 31) [.t 49,.t 56]),gl 0 1 (gm 45 57),gl 0 1 (ga 58 (.ext 0) [.t 45]),gl 0 2 (ga 59 (.ext 1) [.t 45]),gl 0 1 (ga 9 (.eS (some 35) (.st 35 [ku,ku,ku,(bC 27),ki])) []),gl 1 2 (gn (.aY (some 35)) [.t 9,.t 58]),gl 2 2 (gm 10 59)]) (.seq (.seq (.af [gm 60 10,ga 61 (.un .not) [.t 60]]) (.cond (.t 61) (.seq (.af [ga 4 .mv [kc 31]]) .ret) .skip)) (.seq (.seq (.af [gm 62 0,gm 63 0,ga 64 .aU [.t 63],ga 65 (.fa 73 6) [.t 64],ga 66 (.ld (some 35)) [.t 65],ga 67 (.call 34) [.t 66],gm 68 7,ga 69 (.call 33) [.t 62,.t 67,.t 68],ga 70 (.un .not) [.t 69],gm 71 70,gw 71 false 72 .mv [.t 0],gw 71 false 73 (.call 35) [.t 72],gw 71 false 74 (.un .not) [.t 73],ga 75 .pick [.t 71,kb true,.t 74]]) (.cond (.t 75) (.seq (.af [ga 4 .mv [kc 29]]) .ret) .skip)) (.seq (.af [gm 76 0,ga 77 (.ld (some 35)) [.t 9],ga 78 .aU [.t 76],ga 79 (.fa 73 6) [.t 78],gn (.aY (some 35)) [.t 79,.t 77]]) (.seq (.af [gm 80 0,ga 81 .aU [.t 80],ga 82 (.fa 73 4) [.t 81],ga 83 (.ld none) [.t 82],ga 84 (.ld (some 59)) [.t 3],ga 85 (.call 36) [.t 83,.t 84]]) (.seq (.seq (.af [gm 86 0,ga 87 .aU [.t 86],ga 88 (.fa 73 6) [.t 87],ga 89 (.ld (some 35)) [.t 88],ga 90 (.call 25) [.t 89],ga 91 (.bin .num .eql) [.t 90,kc 8],gm 92 91,gw 92 true 93 .mv [.t 0],gw 92 true 94 (.call 26) [.t 93],gw 92 true 95 (.un .not) [.t 94],ga 96 .pick [.t 92,.t 95,kb false]]) (.cond (.t 96) (.seq (.af [ga 4 .mv [kc 29]]) .ret) .skip)) (.seq (.af [ga 4 .mv [kc 0]]) .ret)))))))))))
abbrev F13 :Go.Vm.Fn:=⟨97,B13,[(.t 4)],false⟩
theorem UB :bH Tryz.prog ob Tryz.f13 false=some F13:=by kernel_rfl
theorem UC :B13.fits 97=true:=by kernel_rfl
def B14 :Go.Vm.C:=(.seq (.af [ga 3 (.box (some 59)) [.t 1],ga 4 .mv [kc 0]]) (.seq (.af [gm 7 0,ga 8 (.ld (some 59)) [.t 3],ga 9 (.call 37) [.t 7,.t 8],gm 5 9]) (.seq (.seq (.af [gm 10 5,ga 11 (.bin .num .neq) [.t 10,kc 0]]) (.cond (.t 11) (.seq (.af [gm 12 5,gm 4 12]) .ret) .skip)) (.seq (.seq (.af [ga 13 (.fa 59 0) [.t 3],ga 14 (.ld none) [.t 13]]) (.block 0 (.seq (.af [ga 16 (.bin .num .eql) [.t 14,kc 1],gm 15 16]) (.cond (.t 15) (.seq (.af [ga 17 (.fa 59 4) [.t 3],ga 18 (.fa 56 0) [.t 17],ga 19 (.ld (some 54)) [.t 18],ga 20 (.call 38) [.t 19],gm 6 20]) (.bL [gl 0 1 (gm 21 0),gl 0 1 (gm 22 6),gl 0 0 (gm 23 0),gl 0 0 (gm 24 6),gl 0 0 (ga 25 .aU [.t 23]),gl 0 0 (ga 26 (.fa 78 2) [.t 25]),gl 0 0 (ga 27 (.fg 77) [.t 26,.t 24]),gl 0 0 (ga 28 (.fa 75 3) [.t 27]),gl 0 0 (ga 29 (.ld none) [.t 28]),gl 0 0 (ga 30 (.fa 59 4) [.t 3]),gl 0 0 (ga 31 (.ld (some 56)) [.t 30]),gl 0 1 (ga 32 (.call 39) [.t 29,.t 31]),gl 0 1 (ga 33 .aU [.t 21]),gl 0 1 (ga 34 (.fa 78 2) [.t 33]),gl 1 1 (ga 35 (.fg 77) [.t 34,.t 22]),gl 1 1 (ga 36 (.fa 75 3) [.t 35]),gl 1 2 (gn (.aY none) [.t 36,.t 32])])) (.seq (.af [ga 38 (.bin .num .eql) [.t 14,kc 2],gm 37 38]) (.cond (.t 37) (.bL [gl 0 0 (gm 39 0),gl 0 0 (ga 40 (.fa 59 1) [.t 3]),gl 0 0 (ga 41 (.ld none) [.t 40]),gl 0 1 (gm 42 0),gl 0 1 (ga 43 (.fa 59 1) [.t 3]),gl 0 1 (ga 44 (.ld none) [.t 43]),gl 0 2 (gm 45 0),gl 0 2 (ga 46 (.fa 59 1) [.t 3]),gl 0 2 (ga 47 (.ld none) [.t 46]),gl 0 1 (ga 48 (.fa 59 3) [.t 3]),gl 0 1 (ga 49 (.ld none) [.t 48]),gl 0 2 (ga 50 (.fa 59 2) [.t 3]),gl 0 2 (ga 51 (.ld none) [.t 50]),gl 0 0 (ga 52 .aU [.t 39]),gl 0 0 (ga 53 (.fa 78 2) [.t 52]),gl 0 0 (ga 54 (.fg 77) [.t 53,.t 41]),gl 0 0 (ga 55 (.fa 75 0) [.t 54]),gl 0 1 (gn (.aY none) [.t 55,kc 2]),gl 0 1 (ga 56 .aU [.t 42]),gl 0 1 (ga 57 (.fa 78 2) [.t 56]),gl 1 1 (ga 58 (.fg 77) [.t 57,.t 44]),gl 1 1 (ga 59 (.fa 75 1) [.t 58]),gl 1 2 (gn (.aY none) [.t 59,.t 49]),gl 0 2 (ga 60 .aU [.t 45]),gl 0 2 (ga 61 (.fa 78 2) [.t 60]),gl 2 2 (ga 62 (.fg 77) [.t 61,.t 47]),gl 2 2 (ga 63 (.fa 75 2) [.t 62]),gl 2 3 (gn (.aY none) [.t 63,.t 51])]) (.seq (.af [ga 65 (.bin .num .eql) [.t 14,kc 3],gm 64 65]) (.cond (.t 64) (.bL [gl 0 1 (gm 66 0),gl 0 1 (ga 67 (.fa 59 1) [.t 3]),gl 0 1 (ga 68 (.ld none) [.t 67]),gl 0 1 (ga 69 (.fa 59 3) [.t 3]),gl 0 1 (ga 70 (.ld none) [.t 69]),gl 0 0 (ga 71 (.gT (some 56) [] []) []),gl 0 0 (ga 72 (.fa 59 5) [.t 3]),gl 0 0 (ga 73 (.ld none) [.t 72]),gl 0 1 (ga 74 (.app (some 56) 96) [.t 71,.t 73]),gl 1 1 (ga 75 (.dN 75 [ki,ku,ki,(.al false (some 56) [])] [0,1,3]) [kc 1,.t 70,.t 74]),gl 0 1 (ga 76 .aU [.t 66]),gl 0 1 (ga 77 (.fa 78 2) [.t 76]),gl 1 1 (ga 78 (.fg 77) [.t 77,.t 68]),gl 1 2 (gn (.aY (some 75)) [.t 78,.t 75])]) (.seq (.af [ga 80 (.bin .num .eql) [.t 14,kc 4],gm 79 80]) (.cond (.t 79) (.af [gm 81 0,ga 82 (.fa 59 1) [.t 3],ga 83 (.ld none) [.t 82],ga 84 (.fa 59 3) [.t 3],ga 85 (.ld none) [.t 84],ga 86 (.dN 75 [ki,ku,ki,(.al false (some 56) [])] [1]) [.t 85],ga 87 .aU [.t 81],ga 88 (.fa 78 2) [.t 87],ga 89 (.fg 77) [.t 88,.t 83],gn (.aY (some 75)) [.t 89,.t 86]]) .skip)))))))))) (.seq (.af [ga 4 .mv [kc 0]]) .ret)))))
abbrev F14 :Go.Vm.Fn:=⟨90,B14,[(.t 4)],false⟩
theorem UD :bH Tryz.prog ob Tryz.f14 false=some F14:=by kernel_rfl
theorem UE :B14.fits 90=true:=by kernel_rfl
def B15 :Go.Vm.C:=(.seq (.af [ga 2 .mv [(.c (.s (.pointer none)))]]) (.seq (.seq (.af [gm 3 0,ga 4 .aU [.t 3],ga 5 (.fa 73 3) [.t 4],ga 6 (.ld none) [.t 5],ga 7 (.bin .num .neq) [.t 6,kc 1]]) (.cond (.t 7) (.seq (.af [ga 2 .mv [(.c (.s (.pointer none)))]]) .ret) .skip)) (.seq (.af [gm 8 0,ga 9 .aU [.t 8],ga 10 (.fa 73 4) [.t 9],ga 11 (.ld none) [.t 10],ga 12 (.call 40) [.t 11],gm 2 12]) .ret)))
abbrev F15 :Go.Vm.Fn:=⟨13,B15,[(.t 2)],false⟩
theorem UF :bH Tryz.prog ob Tryz.f15 false=some F15:=by kernel_rfl
theorem UG :B15.fits 13=true:=by kernel_rfl
def OU :Go.Vm.C:=(.loop (.seq (.af [ga 58 (.bin .num .lss) [.t 57,.t 56]]) (.seq (.cond (.t 58) .skip (.exit 2)) (.seq (.block 3 (.seq (.af [ga 59 (.de (some 56)) [.t 55,.t 57],ga 60 (.ld (some 56)) [.t 59],ga 12 (.eS (some 56) (.st 56 [(z4 54),ku,(bC 27),kx,ki,ki,(bC 27),(.s (.bool false)),(.s (.bool false))])) [],gn (.aY (some 56)) [.t 12,.t 60]]) (.seq (.af [ga 62 (.ld (some 56)) [.t 12],ga 63 (.call 45) [.t 62],gm 61 63,ga 64 (.ext 0) [.t 61],ga 65 (.ext 1) [.t 61],gm 13 64,gm 14 65]) (.af [gm 66 5,gm 67 13,ga 68 (.app none 1) [.t 66,.t 67],gm 5 68])))) (.af [ga 69 (.bin .num .add) [.t 57,kc 1],gm 57 69])))))
def OV :Go.Vm.C:=(.loop (.seq (.af [ga 28 (.bin .num .lss) [.t 27,kc 16]]) (.seq (.cond (.t 28) .skip (.exit 0)) (.seq (.block 1 (.seq (.af [gm 29 27,gm 6 29]) (.seq (.af [gm 31 0,gm 32 6,ga 33 (.call 42) [.t 31,.t 32],gm 30 33,ga 34 (.ext 0) [.t 30],ga 35 (.ext 1) [.t 30],ga 36 (.ext 2) [.t 30],gm 7 34,gm 8 35,gm 9 36]) (.seq (.af [gm 37 0,gm 38 6,ga 39 (.call 43) [.t 37,.t 38],gm 10 39]) (.seq (.af [gm 40 5,gm 41 7,ga 42 (.gO .u8) [.t 41],ga 43 (.gT none [(.s (.int .u8 0))] [0]) [.t 42],ga 44 (.app none 1) [.t 40,.t 43],gm 45 8,ga 46 (.call 44) [.t 45],ga 47 (.app none 1) [.t 44,.t 46],gm 48 9,ga 49 (.gO .u8) [.t 48],gm 50 10,ga 51 .len [.t 50],ga 52 (.gO .u8) [.t 51],ga 53 (.gT none [(.s (.int .u8 0)),(.s (.int .u8 0))] [0,1]) [.t 49,.t 52],ga 54 (.app none 1) [.t 47,.t 53],gm 5 54]) (.seq (.af [gm 55 10,ga 56 .len [.t 55],ga 57 .mv [kc 0]]) (.block 2 OU))))))) (.af [ga 70 (.bin .num .add) [.t 27,kc 1],gm 27 70])))))
def OW :Go.Vm.C:=(.seq (.af [gm 71 5,gm 2 71]) .ret)
def B16 :Go.Vm.C:=(.seq (.af [ga 2 .mv [(.c (.al true none []))]]) (.seq (.seq (.af [gm 15 0,ga 16 (.bin .ptr .eql) [.t 15,(.c (.s (.pointer none)))]]) (.cond (.t 16) (.seq (.af [ga 2 .mv [(.c (.al true none []))]]) .ret) .skip)) (.seq (.af [gm 18 0,ga 19 (.call 41) [.t 18],gm 17 19,ga 20 (.ext 0) [.t 17],ga 21 (.ext 1) [.t 17],gm 3 20,gm 4 21]) (.seq (.af [gm 22 3,ga 23 (.gO .u8) [.t 22],gm 24 4,ga 25 (.gO .u8) [.t 24],ga 26 (.gT none [(.s (.int .u8 0)),(.s (.int .u8 0))] [0,1]) [.t 23,.t 25],gm 5 26]) (.seq (.seq (.af [ga 27 .mv [kc 0]]) (.block 0 OV)) OW)))))
abbrev F16 :Go.Vm.Fn:=⟨72,B16,[(.t 2)],true⟩
theorem UH :bH Tryz.prog ob Tryz.f16 true=some F16:=by kernel_rfl
theorem UI :B16.fits 72=true:=by kernel_rfl
def OX :Go.Vm.C:=(.loop (.seq (.seq (.af [gm 47 6,ga 48 (.fa 75 3) [.t 5],ga 49 (.ld none) [.t 48],ga 50 .len [.t 49],ga 51 (.bin .num .lss) [.t 47,.t 50]]) (.cond (.t 51) .skip (.exit 2))) (.seq (.block 3 (.af [gm 54 3,ga 55 (.fa 75 3) [.t 5],ga 56 (.ld none) [.t 55],gm 57 6,ga 58 (.de (some 56)) [.t 56,.t 57],ga 59 (.ld (some 56)) [.t 58],ga 60 (.call 47) [.t 59],ga 61 (.app none 1) [.t 54,.t 60],gm 3 61])) (.af [gm 52 6,ga 53 (.bin .num .add) [.t 52,kc 1],gm 6 53]))))
def OY :Go.Vm.C:=(.loop (.seq (.seq (.af [gm 18 4,ga 19 (.bin .num .lss) [.t 18,kc 16]]) (.cond (.t 19) .skip (.exit 0))) (.seq (.block 1 (.seq (.af [gm 22 0,gm 23 4,ga 24 .aU [.t 22],ga 25 (.fa 78 2) [.t 24],ga 26 (.fg 77) [.t 25,.t 23],ga 27 (.ld (some 75)) [.t 26],ga 5 (.eS (some 75) (.st 75 [ki,ku,ki,(.al false (some 56) [])])) [],gn (.aY (some 75)) [.t 5,.t 27]]) (.seq (.bL [gl 0 0 (gm 28 3),gl 0 0 (ga 29 (.fa 75 0) [.t 5]),gl 0 0 (ga 30 (.ld none) [.t 29]),gl 0 0 (ga 31 (.gO .u8) [.t 30]),gl 0 0 (ga 32 (.CP none [(.s (.int .u8 0))] [0]) [.t 31]),gl 0 1 (ga 33 (.app none 1) [.t 28,.t 32]),gl 0 1 (ga 34 (.fa 75 1) [.t 5]),gl 0 1 (ga 35 (.ld none) [.t 34]),gl 1 2 (ga 36 (.call 46) [.t 35]),gl 2 3 (ga 37 (.app none 1) [.t 33,.t 36]),gl 0 3 (ga 38 (.fa 75 2) [.t 5]),gl 0 3 (ga 39 (.ld none) [.t 38]),gl 0 3 (ga 40 (.gO .u8) [.t 39]),gl 0 3 (ga 41 (.fa 75 3) [.t 5]),gl 0 3 (ga 42 (.ld none) [.t 41]),gl 0 3 (ga 43 .len [.t 42]),gl 0 3 (ga 44 (.gO .u8) [.t 43]),gl 0 3 (ga 45 (.CP none [(.s (.int .u8 0)),(.s (.int .u8 0))] [0,1]) [.t 40,.t 44]),gl 3 4 (ga 46 (.app none 1) [.t 37,.t 45]),gl 4 4 (gm 3 46)]) (.seq (.af [ga 6 .mv [kc 0]]) (.block 2 OX))))) (.af [gm 20 4,ga 21 (.bin .num .add) [.t 20,kc 1],gm 4 21]))))
def OZ :Go.Vm.C:=(.seq (.af [gm 62 3,gm 2 62]) .ret)
def B17 :Go.Vm.C:=(.seq (.af [ga 2 .mv [(.c (.al true none []))]]) (.seq (.af [gm 7 0,ga 8 .aU [.t 7],ga 9 (.fa 78 0) [.t 8],ga 10 (.ld none) [.t 9],ga 11 (.gO .u8) [.t 10],gm 12 0,ga 13 .aU [.t 12],ga 14 (.fa 78 1) [.t 13],ga 15 (.ld none) [.t 14],ga 16 (.gO .u8) [.t 15],ga 17 (.gT none [(.s (.int .u8 0)),(.s (.int .u8 0))] [0,1]) [.t 11,.t 16],gm 3 17]) (.seq (.seq (.af [ga 4 .mv [kc 0]]) (.block 0 OY)) OZ)))
abbrev F17 :Go.Vm.Fn:=⟨63,B17,[(.t 2)],true⟩
theorem UJ :bH Tryz.prog ob Tryz.f17 true=some F17:=by kernel_rfl
theorem UK :B17.fits 63=true:=by kernel_rfl
def B18 :Go.Vm.C:=(.seq (.af [ga 0 .mv [kb false]]) (.seq (.af [ga 8 (.jD 27 [(.s (.int .u8 0)),(.s (.int .u8 0)),(.s (.int .u8 0)),(.s (.int .u8 0)),(.s (.int .u8 0)),(.s (.int .u8 0)),(.s (.int .u8 0)),(.s (.int .u8 0)),(.s (.int .u8 0)),(.s (.int .u8 0)),(.s (.int .u8 0)),(.s (.int .u8 0)),(.s (.int .u8 0)),(.s (.int .u8 0)),(.s (.int .u8 0)),(.s (.int .u8 0))] [0]) [(.c (.s (.int .u8 1)))],ga 9 (.call 48) [kc 0,kc 1,.t 8],gm 1 9]) (.seq (.seq (.af [gm 10 1,ga 11 (.bin .ptr .eql) [.t 10,(.c (.s (.pointer none)))]]) (.cond (.t 11) (.seq (.af [ga 0 .mv [kb false]]) .ret) .skip)) (.seq (.af [ga 12 (.jD 54 [(.s (.int .u8 0)),(.s (.int .u8 0)),(.s (.int .u8 0)),(.s (.int .u8 0))] [0]) [(.c (.s (.int .u8 1)))],ga 13 (.dN 56 [(z4 54),ku,(bC 27),kx,ki,ki,(bC 27),(.s (.bool false)),(.s (.bool false))] [0,1,7]) [.t 12,(.c (.s (.int .u64 1))),kb true],ga 14 (.dN 59 [ki,ki,ki,ku,(.st 56 [(z4 54),ku,(bC 27),kx,ki,ki,(bC 27),(.s (.bool false)),(.s (.bool false))]),(.al false (some 56) [])] [0,4]) [kc 1,.t 13],ga 2 (.eS (some 59) (.st 59 [ki,ki,ki,ku,(.st 56 [(z4 54),ku,(bC 27),kx,ki,ki,(bC 27),(.s (.bool false)),(.s (.bool false))]),(.al false (some 56) [])])) [],gn (.aY (some 59)) [.t 2,.t 14]]) (.seq (.af [gm 15 1,ga 16 .aU [.t 15],ga 17 (.fa 40 0) [.t 16],ga 18 (.ld none) [.t 17],ga 19 (.call 6) [.t 18,kc 2,kc 0]]) (.seq (.af [gm 20 1,ga 21 .aU [.t 20],ga 22 (.fa 40 0) [.t 21],ga 23 (.ld none) [.t 22],ga 24 (.ld (some 59)) [.t 2],ga 25 (.call 13) [.t 23,.t 24],gm 3 25]) (.seq (.af [gm 26 1,ga 27 .aU [.t 26],ga 28 (.fa 40 0) [.t 27],ga 29 (.ld none) [.t 28],ga 30 (.call 9) [.t 29],gm 4 30]) (.seq (.af [gm 31 1,ga 32 .aU [.t 31],ga 33 (.fa 40 0) [.t 32],ga 34 (.ld none) [.t 33],ga 35 (.call 12) [.t 34],ga 36 (.fld 35 1) [.t 35],gm 5 36]) (.seq (.af [gm 37 1,ga 38 .aU [.t 37],ga 39 (.fa 40 0) [.t 38],ga 40 (.ld none) [.t 39],ga 41 (.ld (some 59)) [.t 2],ga 42 (.call 13) [.t 40,.t 41],gm 6 42]) (.seq (.af [gm 43 1,ga 44 .aU [.t 43],ga 45 (.fa 40 0) [.t 44],ga 46 (.ld none) [.t 45],ga 47 (.call 8) [.t 46]]) (.seq (.af [gm 48 1,ga 49 .aU [.t 48],ga 50 (.fa 40 0) [.t 49],ga 51 (.ld none) [.t 50],ga 52 (.call 9) [.t 51],gm 7 52]) (.seq (.af [gm 53 3,ga 54 (.bin .num .eql) [.t 53,kc 29],gm 55 54,gw 55 true 56 .mv [.t 4],gw 55 true 57 (.bin .num .eql) [.t 56,kc 0],ga 58 .pick [.t 55,.t 57,kb false],gm 59 58,gw 59 true 60 .mv [.t 5],gw 59 true 61 (.bin .num .eql) [.t 60,(.c ku)],ga 62 .pick [.t 59,.t 61,kb false],gm 63 62,gw 63 true 64 .mv [.t 6],gw 63 true 65 (.bin .num .eql) [.t 64,kc 0],ga 66 .pick [.t 63,.t 65,kb false],gm 67 66,gw 67 true 68 .mv [.t 7],gw 67 true 69 (.bin .num .eql) [.t 68,kc 0],ga 70 .pick [.t 67,.t 69,kb false],gm 71 70,gw 71 true 72 .mv [.t 1],gw 71 true 73 .aU [.t 72],gw 71 true 74 (.fa 40 0) [.t 73],gw 71 true 75 (.ld none) [.t 74],gw 71 true 76 (.call 12) [.t 75],gw 71 true 77 (.fld 35 1) [.t 76],gw 71 true 78 (.bin .num .eql) [.t 77,(.c (.s (.int .u64 1)))],ga 79 .pick [.t 71,.t 78,kb false],gm 80 79,gw 80 true 81 .mv [.t 1],gw 80 true 82 .aU [.t 81],gw 80 true 83 (.fa 40 0) [.t 82],gw 80 true 84 (.ld none) [.t 83],gw 80 true 85 (.call 15) [.t 84],gw 80 true 86 (.bin .ptr .neq) [.t 85,(.c (.s (.pointer none)))],ga 87 .pick [.t 80,.t 86,kb false],gm 0 87]) .ret))))))))))))
abbrev F18 :Go.Vm.Fn:=⟨88,B18,[(.t 0)],true⟩
theorem UL :bH Tryz.prog ob Tryz.f18 true=some F18:=by kernel_rfl
theorem UM :B18.fits 88=true:=by kernel_rfl
def O0 :Go.Vm.C:=(.loop (.seq (.af [ga 28 (.bin .num .lss) [.t 27,kc 16]]) (.seq (.cond (.t 28) .skip (.exit 0)) (.seq (.block 1 (.seq (.af [gm 29 27,gm 6 29]) (.seq (.af [ga 30 (.call 49) [],ga 31 (.dN 107 [ki,ku,ki,(.s (.pointer none))] [0,1,3]) [kc 0,(.c (.s (.int .u64 1))),.t 30],ga 7 (.eS (some 107) (.st 107 [ki,ku,ki,(.s (.pointer none))])) [],gn (.aY (some 107)) [.t 7,.t 31]]) (.seq (.seq (.af [gm 32 6,gm 33 1,ga 34 (.call 50) [.t 32,.t 33],gm 35 0,ga 36 (.bin .num .eql) [.t 34,.t 35]]) (.cond (.t 36) (.af [ga 37 (.fa 107 0) [.t 7],gn (.aY none) [.t 37,kc 1]]) .skip)) (.bL [gl 0 2 (gm 38 5),gl 0 1 (gm 39 5),gl 0 1 (ga 40 .aU [.t 39]),gl 0 1 (ga 41 (.fa 103 2) [.t 40]),gl 0 1 (ga 42 (.ld none) [.t 41]),gl 0 0 (ga 43 (.ld (some 107)) [.t 7]),gl 0 1 (ga 44 (.gT (some 107) [(.st 107 [ki,ku,ki,(.s (.pointer none))])] [0]) [.t 43]),gl 1 2 (ga 45 (.app (some 107) 32) [.t 42,.t 44]),gl 2 2 (ga 46 .aU [.t 38]),gl 2 2 (ga 47 (.fa 103 2) [.t 46]),gl 2 3 (gn (.aY none) [.t 47,.t 45])]))))) (.af [ga 48 (.bin .num .add) [.t 27,kc 1],gm 27 48])))))
def O1 :Go.Vm.C:=(.seq (.af [gm 49 5,gm 4 49]) .ret)
def B19 :Go.Vm.C:=(.seq (.af [ga 4 .mv [(.c (.s (.pointer none)))]]) (.seq (.seq (.af [gm 8 1,ga 9 (.bin .num .lss) [.t 8,kc 1],gm 10 9,gw 10 false 11 .mv [.t 1],gw 10 false 12 (.bin .num .gtr) [.t 11,kc 8],ga 13 .pick [.t 10,kb true,.t 12],gm 14 13,gw 14 false 15 .mv [.t 0],gw 14 false 16 (.bin .num .lss) [.t 15,kc 0],ga 17 .pick [.t 14,kb true,.t 16],gm 18 17,gw 18 false 19 .mv [.t 0],gw 18 false 20 .mv [.t 1],gw 18 false 21 (.bin .num .geq) [.t 19,.t 20],ga 22 .pick [.t 18,kb true,.t 21]]) (.cond (.t 22) (.seq (.af [ga 4 .mv [(.c (.s (.pointer none)))]]) .ret) .skip)) (.seq (.af [gm 23 0,gm 24 1,ga 25 (.dN 103 [ki,ki,(.al true (some 107) [])] [0,1]) [.t 23,.t 24],ga 26 (.box (some 103)) [.t 25],gm 5 26]) (.seq (.seq (.af [ga 27 .mv [kc 0]]) (.block 0 O0)) O1))))
abbrev F19 :Go.Vm.Fn:=⟨50,B19,[(.t 4)],false⟩
theorem UN :bH Tryz.prog ob Tryz.f19 false=some F19:=by kernel_rfl
theorem UO :B19.fits 50=true:=by kernel_rfl
def B20 :Go.Vm.C:=(.seq (.af [ga 2 (.box (some 27)) [.t 0],ga 4 (.eS (some 27) (bC 27)) []]) (.seq (.af [ga 5 (.ld (some 27)) [.t 2],gm 6 1,ga 7 (.gO .u8) [.t 6],ga 8 (.gT none [(.s (.int .u8 0))] [0]) [.t 7],ga 9 (.call 51) [.t 5,.t 8],gn (.aY (some 27)) [.t 4,.t 9]]) .ret))
abbrev F20 :Go.Vm.Fn:=⟨10,B20,[(.cell 4 (some 27))],true⟩
theorem UP :bH Tryz.prog ob Tryz.f20 true=some F20:=by kernel_rfl
theorem UQ :B20.fits 10=true:=by kernel_rfl
def B21 :Go.Vm.C:=(.seq (.af [ga 0 .mv [(.c (.s (.pointer none)))]]) (.seq (.af [ga 1 (.dN 113 [(.arr 112 [(.st 110 [(.s (.bool false)),(.al true none [])]),(.st 110 [(.s (.bool false)),(.al true none [])]),(.st 110 [(.s (.bool false)),(.al true none [])]),(.st 110 [(.s (.bool false)),(.al true none [])]),(.st 110 [(.s (.bool false)),(.al true none [])]),(.st 110 [(.s (.bool false)),(.al true none [])]),(.st 110 [(.s (.bool false)),(.al true none [])]),(.st 110 [(.s (.bool false)),(.al true none [])]),(.st 110 [(.s (.bool false)),(.al true none [])]),(.st 110 [(.s (.bool false)),(.al true none [])])]),(.arr 112 [(.st 110 [(.s (.bool false)),(.al true none [])]),(.st 110 [(.s (.bool false)),(.al true none [])]),(.st 110 [(.s (.bool false)),(.al true none [])]),(.st 110 [(.s (.bool false)),(.al true none [])]),(.st 110 [(.s (.bool false)),(.al true none [])]),(.st 110 [(.s (.bool false)),(.al true none [])]),(.st 110 [(.s (.bool false)),(.al true none [])]),(.st 110 [(.s (.bool false)),(.al true none [])]),(.st 110 [(.s (.bool false)),(.al true none [])]),(.st 110 [(.s (.bool false)),(.al true none [])])]),ki,ki,(.al true none [])] []) [],ga 2 (.box (some 113)) [.t 1],gm 0 2]) .ret))
abbrev F21 :Go.Vm.Fn:=⟨3,B21,[(.t 0)],false⟩
theorem UR :bH Tryz.prog ob Tryz.f21 false=some F21:=by kernel_rfl
theorem US :B21.fits 3=true:=by kernel_rfl
def B22 :Go.Vm.C:=(.seq (.af [gm 4 0,gm 5 0,ga 6 .aU [.t 4],ga 7 (.fa 73 3) [.t 6],gn (.aY none) [.t 7,kc 2],ga 8 .aU [.t 5],ga 9 (.fa 73 8) [.t 8],gn (.aY none) [.t 9,kc (-1)]]) (.af [gm 10 0,ga 11 .aU [.t 10],ga 12 (.fa 73 5) [.t 11],ga 13 (.ld none) [.t 12],gm 14 1,ga 15 (.call 52) [.t 13,.t 14]]))
abbrev F22 :Go.Vm.Fn:=⟨16,B22,[],false⟩
theorem UT :bH Tryz.prog ob Tryz.f22 false=some F22:=by kernel_rfl
theorem UU :B22.fits 16=true:=by kernel_rfl
def B23 :Go.Vm.C:=(.seq (.af [ga 1 (.box (some 35)) [.t 0],ga 2 (.eS (some 35) (.st 35 [ku,ku,ku,(bC 27),ki])) [],ga 3 .mv [kb false]]) (.seq (.af [ga 5 (.ld (some 35)) [.t 1],ga 4 (.eS (some 35) (.st 35 [ku,ku,ku,(bC 27),ki])) [],gn (.aY (some 35)) [.t 4,.t 5]]) (.seq (.af [ga 6 (.fa 35 0) [.t 1],ga 7 (.ld none) [.t 6],ga 8 (.bin .num .add) [.t 7,(.c (.s (.int .u64 1)))],ga 9 (.fa 35 0) [.t 1],gn (.aY none) [.t 9,.t 8]]) (.seq (.af [ga 10 (.ld (some 35)) [.t 4],ga 11 (.ld (some 35)) [.t 1],ga 12 (.call 53) [.t 10,.t 11],ga 13 (.ext 0) [.t 12],ga 14 (.ext 1) [.t 12],gn (.aY (some 35)) [.t 2,.t 13],gm 3 14]) .ret))))
abbrev F23 :Go.Vm.Fn:=⟨15,B23,[(.cell 2 (some 35)),(.t 3)],true⟩
theorem UW :bH Tryz.prog ob Tryz.f23 true=some F23:=by kernel_rfl
theorem UX :B23.fits 15=true:=by kernel_rfl
def yv :Go.Vm.C:=(.loop (.seq (.af [ga 62 (.bin .num .lss) [.t 61,.t 60]]) (.seq (.cond (.t 62) .skip (.exit 0)) (.seq (.block 1 (.seq (.af [ga 63 (.de (some 59)) [.t 59,.t 61],ga 64 (.ld (some 59)) [.t 63],ga 9 (.eS (some 59) (.st 59 [ki,ki,ki,ku,(.st 56 [(z4 54),ku,(bC 27),kx,ki,ki,(bC 27),(.s (.bool false)),(.s (.bool false))]),(.al false (some 56) [])])) [],gn (.aY (some 59)) [.t 9,.t 64]]) (.seq (.af [gm 65 7,ga 66 (.ld (some 59)) [.t 9],ga 67 (.call 36) [.t 65,.t 66],ga 68 (.bin .num .neq) [.t 67,kc 0]]) (.cond (.t 68) (.seq (.af [ga 2 .mv [(.c (.s (.pointer none)))],ga 3 .mv [kb false]]) .ret) .skip)))) (.af [ga 69 (.bin .num .add) [.t 61,kc 1],gm 61 69])))))
def yw :Go.Vm.C:=(.seq (.af [gm 70 7,gm 2 70,ga 3 .mv [kb true]]) .ret)
def B24 :Go.Vm.C:=(.seq (.af [ga 2 .mv [(.c (.s (.pointer none)))],ga 3 .mv [kb false]]) (.seq (.af [gm 11 0,ga 12 .aU [.t 11],ga 13 (.fa 73 2) [.t 12],ga 14 (.ld (some 27)) [.t 13],gm 15 0,ga 16 .aU [.t 15],ga 17 (.fa 73 5) [.t 16],ga 18 (.ld none) [.t 17],gm 19 0,ga 20 .aU [.t 19],ga 21 (.fa 73 6) [.t 20],ga 22 (.ld (some 35)) [.t 21],ga 23 (.call 54) [.t 14,.t 18,.t 22],gm 10 23,ga 24 (.ext 0) [.t 10],ga 25 (.ext 1) [.t 10],ga 26 (.ext 2) [.t 10],gm 4 24,gm 5 25,gm 6 26]) (.seq (.seq (.af [gm 27 6,ga 28 (.bin .num .neq) [.t 27,kc 0]]) (.cond (.t 28) (.seq (.af [ga 2 .mv [(.c (.s (.pointer none)))],ga 3 .mv [kb false]]) .ret) .skip)) (.seq (.af [gm 29 0,ga 30 .aU [.t 29],ga 31 (.fa 73 0) [.t 30],ga 32 (.ld none) [.t 31],gm 33 0,ga 34 .aU [.t 33],ga 35 (.fa 73 1) [.t 34],ga 36 (.ld none) [.t 35],ga 37 (.call 19) [.t 32,.t 36],gm 7 37]) (.seq (.seq (.af [gm 38 0,ga 39 .aU [.t 38],ga 40 (.fa 73 6) [.t 39],ga 41 (.fa 35 2) [.t 40],ga 42 (.ld none) [.t 41],ga 43 (.bin .num .gtr) [.t 42,(.c ku)]]) (.cond (.t 43) (.seq (.af [gm 45 0,ga 46 .aU [.t 45],ga 47 (.fa 73 0) [.t 46],ga 48 (.ld none) [.t 47],gm 49 0,ga 50 .aU [.t 49],ga 51 (.fa 73 1) [.t 50],ga 52 (.ld none) [.t 51],gm 53 4,ga 54 (.call 55) [.t 48,.t 52,.t 53],gm 44 54,ga 55 (.ext 0) [.t 44],ga 56 (.ext 1) [.t 44],gm 7 55,gm 6 56]) (.seq (.af [gm 57 6,ga 58 (.bin .num .neq) [.t 57,kc 0]]) (.cond (.t 58) (.seq (.af [ga 2 .mv [(.c (.s (.pointer none)))],ga 3 .mv [kb false]]) .ret) .skip))) .skip)) (.seq (.seq (.af [gm 59 5,ga 60 .len [.t 59],ga 61 .mv [kc 0]]) (.block 0 yv)) yw))))))
abbrev F24 :Go.Vm.Fn:=⟨71,B24,[(.t 2),(.t 3)],false⟩
theorem UY :bH Tryz.prog ob Tryz.f24 false=some F24:=by kernel_rfl
theorem UZ :B24.fits 71=true:=by kernel_rfl
def B25 :Go.Vm.C:=(.seq (.af [ga 1 (.box (some 35)) [.t 0],ga 2 .mv [kc 0]]) (.seq (.seq (.af [ga 3 (.ld (some 35)) [.t 1],ga 4 (.call 56) [.t 3],ga 5 (.un .not) [.t 4]]) (.cond (.t 5) (.seq (.af [ga 2 .mv [kc 0]]) .ret) .skip)) (.seq (.af [ga 6 (.fa 35 1) [.t 1],ga 7 (.ld none) [.t 6],ga 8 (.fa 35 2) [.t 1],ga 9 (.ld none) [.t 8],ga 10 (.bin .num .sub) [.t 7,.t 9],ga 11 (.gO .i64) [.t 10],gm 2 11]) .ret)))
abbrev F25 :Go.Vm.Fn:=⟨12,B25,[(.t 2)],true⟩
theorem U0 :bH Tryz.prog ob Tryz.f25 true=some F25:=by kernel_rfl
theorem U1 :B25.fits 12=true:=by kernel_rfl
def B26 :Go.Vm.C:=(.seq (.af [ga 2 .mv [kb false]]) (.seq (.bL [gl 0 1 (gm 6 0),gl 0 1 (ga 7 .aU [.t 6]),gl 0 1 (ga 8 (.fa 73 2) [.t 7]),gl 0 1 (ga 9 (.ld (some 27)) [.t 8]),gl 0 1 (gm 10 0),gl 0 1 (ga 11 .aU [.t 10]),gl 0 1 (ga 12 (.fa 73 6) [.t 11]),gl 0 1 (ga 13 (.ld (some 35)) [.t 12]),gl 0 0 (gm 14 0),gl 0 0 (ga 15 .aU [.t 14]),gl 0 0 (ga 16 (.fa 73 4) [.t 15]),gl 0 0 (ga 17 (.ld none) [.t 16]),gl 0 1 (ga 18 (.call 16) [.t 17]),gl 1 2 (ga 19 (.call 57) [.t 9,.t 13,.t 18]),gl 2 2 (gm 5 19),gl 2 2 (ga 20 (.ext 0) [.t 5]),gl 2 2 (ga 21 (.ext 1) [.t 5]),gl 2 2 (gm 3 20),gl 2 2 (gm 4 21)]) (.seq (.seq (.af [gm 22 0,gm 23 0,ga 24 .aU [.t 23],ga 25 (.fa 73 6) [.t 24],ga 26 (.ld (some 35)) [.t 25],ga 27 (.call 58) [.t 26],gm 28 3,ga 29 (.call 33) [.t 22,.t 27,.t 28],ga 30 (.un .not) [.t 29],gm 31 30,gw 31 false 32 .mv [.t 0],gw 31 false 33 (.call 35) [.t 32],gw 31 false 34 (.un .not) [.t 33],ga 35 .pick [.t 31,kb true,.t 34]]) (.cond (.t 35) (.seq (.af [ga 2 .mv [kb false]]) .ret) .skip)) (.seq (.bL [gl 0 2 (gm 37 0),gl 0 1 (gm 38 0),gl 0 1 (ga 39 .aU [.t 38]),gl 0 1 (ga 40 (.fa 73 6) [.t 39]),gl 0 1 (ga 41 (.ld (some 35)) [.t 40]),gl 0 0 (gm 42 3),gl 0 1 (ga 43 (.call 60) [.t 42]),gl 1 2 (ga 44 (.call 59) [.t 41,.t 43]),gl 2 2 (gm 36 44),gl 2 2 (ga 45 (.ext 0) [.t 36]),gl 2 3 (ga 46 (.ext 1) [.t 36]),gl 2 2 (ga 47 .aU [.t 37]),gl 2 2 (ga 48 (.fa 73 6) [.t 47]),gl 2 3 (gn (.aY (some 35)) [.t 48,.t 45])]) (.seq (.af [ga 2 .mv [kb true]]) .ret)))))
abbrev F26 :Go.Vm.Fn:=⟨49,B26,[(.t 2)],false⟩
theorem U2 :bH Tryz.prog ob Tryz.f26 false=some F26:=by kernel_rfl
theorem U3 :B26.fits 49=true:=by kernel_rfl
def B27 :Go.Vm.C:=(.seq (.af [ga 1 (.box (some 46)) [.t 0],ga 2 (.eS (some 59) (.st 59 [ki,ki,ki,ku,(.st 56 [(z4 54),ku,(bC 27),kx,ki,ki,(bC 27),(.s (.bool false)),(.s (.bool false))]),(.al false (some 56) [])])) []]) (.seq (.af [ga 5 (.fa 46 1) [.t 1],ga 6 (.ld none) [.t 5],ga 7 (.call 7) [.t 6,kc 0,kc 15],gm 3 7]) (.seq (.af [ga 8 (.fa 46 3) [.t 1],ga 9 (.ld none) [.t 8],ga 10 (.bin .num .rem) [.t 9,(.c (.s (.int .u64 6)))],ga 11 (.bin .num .add) [(.c (.s (.int .u64 1))),.t 10],gm 4 11]) (.seq (.seq (.af [ga 12 (.fa 46 0) [.t 1],ga 13 (.ld none) [.t 12],ga 14 (.call 7) [.t 13,kc 0,kc 1048576],ga 15 (.bin .num .rem) [.t 14,kc 6]]) (.block 0 (.seq (.af [ga 17 (.bin .num .eql) [.t 15,kc 3],gm 16 17]) (.cond (.t 16) (.seq (.af [gm 18 3,ga 19 (.fa 46 2) [.t 1],ga 20 (.ld none) [.t 19],ga 21 (.call 7) [.t 20,kc 0,kc 7],gm 22 4,ga 23 (.dN 59 [ki,ki,ki,ku,(.st 56 [(z4 54),ku,(bC 27),kx,ki,ki,(bC 27),(.s (.bool false)),(.s (.bool false))]),(.al false (some 56) [])] [0,1,2,3]) [kc 2,.t 18,.t 21,.t 22],gn (.aY (some 59)) [.t 2,.t 23]]) .ret) (.seq (.af [ga 25 (.bin .num .eql) [.t 15,kc 4],gm 24 25]) (.cond (.t 24) (.seq (.af [gm 26 3,gm 27 4,ga 28 (.fa 46 5) [.t 1],ga 29 (.ld none) [.t 28],gm 30 3,ga 31 (.call 61) [.t 29,.t 30],ga 32 (.dN 59 [ki,ki,ki,ku,(.st 56 [(z4 54),ku,(bC 27),kx,ki,ki,(bC 27),(.s (.bool false)),(.s (.bool false))]),(.al false (some 56) [])] [0,1,3,5]) [kc 3,.t 26,.t 27,.t 31],gn (.aY (some 59)) [.t 2,.t 32]]) .ret) (.seq (.af [ga 34 (.bin .num .eql) [.t 15,kc 5],gm 33 34]) (.cond (.t 33) (.seq (.af [gm 35 3,gm 36 4,ga 37 (.dN 59 [ki,ki,ki,ku,(.st 56 [(z4 54),ku,(bC 27),kx,ki,ki,(bC 27),(.s (.bool false)),(.s (.bool false))]),(.al false (some 56) [])] [0,1,3]) [kc 4,.t 35,.t 36],gn (.aY (some 59)) [.t 2,.t 37]]) .ret) .skip)))))))) (.seq (.bL [gl 0 1 (ga 38 (.fa 46 4) [.t 1]),gl 0 1 (ga 39 (.ld (some 43)) [.t 38]),gl 0 0 (ga 40 (.fa 46 4) [.t 1]),gl 0 0 (ga 41 (.fa 43 0) [.t 40]),gl 0 0 (ga 42 (.ld none) [.t 41]),gl 0 1 (ga 43 (.call 63) [.t 42]),gl 1 2 (ga 44 (.call 62) [.t 39,.t 43]),gl 2 2 (ga 45 (.dN 59 [ki,ki,ki,ku,(.st 56 [(z4 54),ku,(bC 27),kx,ki,ki,(bC 27),(.s (.bool false)),(.s (.bool false))]),(.al false (some 56) [])] [0,4]) [kc 1,.t 44]),gl 2 3 (gn (.aY (some 59)) [.t 2,.t 45])]) .ret)))))
abbrev F27 :Go.Vm.Fn:=⟨46,B27,[(.cell 2 (some 59))],true⟩
theorem U4 :bH Tryz.prog ob Tryz.f27 true=some F27:=by kernel_rfl
theorem U5 :B27.fits 46=true:=by kernel_rfl
def B28 :Go.Vm.C:=(.seq (.af [ga 2 .mv [kc 0]]) (.seq (.seq (.af [gm 3 0,ga 4 .aU [.t 3],ga 5 (.fa 73 3) [.t 4],ga 6 (.ld none) [.t 5]]) (.block 0 (.seq (.af [ga 8 (.bin .num .eql) [.t 6,kc 2],gm 7 8]) (.cond (.t 7) (.seq (.af [ga 2 .mv [kc 29]]) .ret) (.seq (.af [ga 10 (.bin .num .eql) [.t 6,kc 3],gm 9 10]) (.cond (.t 9) (.seq (.af [ga 2 .mv [kc 28]]) .ret) .skip)))))) (.seq (.af [ga 2 .mv [kc 0]]) .ret)))
abbrev F28 :Go.Vm.Fn:=⟨11,B28,[(.t 2)],true⟩
theorem U6 :bH Tryz.prog ob Tryz.f28 true=some F28:=by kernel_rfl
theorem U7 :B28.fits 11=true:=by kernel_rfl
def B29 :Go.Vm.C:=(.seq (.af [ga 3 (.box (some 59)) [.t 1],ga 4 .mv [kc 0]]) (.seq (.seq (.af [ga 6 (.ld (some 59)) [.t 3],ga 7 (.call 64) [.t 6],ga 8 (.un .not) [.t 7]]) (.cond (.t 8) (.seq (.af [ga 4 .mv [kc 1]]) .ret) .skip)) (.seq (.seq (.af [ga 9 (.fa 59 0) [.t 3],ga 10 (.ld none) [.t 9]]) (.block 0 (.seq (.af [ga 12 (.bin .num .eql) [.t 10,kc 1],gm 11 12]) (.cond (.t 11) (.seq (.af [gm 13 0,ga 14 (.fa 59 4) [.t 3],ga 15 (.ld (some 56)) [.t 14],ga 16 (.call 65) [.t 13,.t 15],gm 4 16]) .ret) (.seq (.af [ga 18 (.bin .num .eql) [.t 10,kc 2],gm 17 18]) (.cond (.t 17) (.seq (.af [gm 19 0,ga 20 (.ld (some 59)) [.t 3],ga 21 (.call 66) [.t 19,.t 20],gm 4 21]) .ret) (.seq (.af [ga 23 (.bin .num .eql) [.t 10,kc 3],gm 22 23]) (.cond (.t 22) (.seq (.af [gm 24 0,ga 25 (.ld (some 59)) [.t 3],ga 26 (.call 67) [.t 24,.t 25],gm 4 26]) .ret) .skip)))))))) (.seq (.seq (.bL [gl 0 1 (gm 27 0),gl 0 1 (ga 28 .aU [.t 27]),gl 0 1 (ga 29 (.fa 103 2) [.t 28]),gl 0 1 (ga 30 (.ld none) [.t 29]),gl 0 1 (ga 31 (.fa 59 1) [.t 3]),gl 0 1 (ga 32 (.ld none) [.t 31]),gl 0 1 (ga 33 (.de (some 107)) [.t 30,.t 32]),gl 0 1 (ga 34 (.ld (some 107)) [.t 33]),gl 0 1 (ga 5 (.eS (some 107) (.st 107 [ki,ku,ki,(.s (.pointer none))])) []),gl 1 2 (gn (.aY (some 107)) [.t 5,.t 34])]) (.seq (.af [ga 35 (.fa 107 0) [.t 5],ga 36 (.ld none) [.t 35],ga 37 (.bin .num .neq) [.t 36,kc 2],gm 38 37,gw 38 false 39 (.fa 107 1) [.t 5],gw 38 false 40 (.ld none) [.t 39],gw 38 false 41 (.fa 59 3) [.t 3],gw 38 false 42 (.ld none) [.t 41],gw 38 false 43 (.bin .num .neq) [.t 40,.t 42],ga 44 .pick [.t 38,kb true,.t 43]]) (.cond (.t 44) (.seq (.af [ga 4 .mv [kc 26]]) .ret) .skip))) (.seq (.af [ga 4 .mv [kc 0]]) .ret)))))
abbrev F29 :Go.Vm.Fn:=⟨45,B29,[(.t 4)],true⟩
theorem U8 :bH Tryz.prog ob Tryz.f29 true=some F29:=by kernel_rfl
theorem U9 :B29.fits 45=true:=by kernel_rfl
def B30 :Go.Vm.C:=(.seq (.af [ga 4 (.box (some 27)) [.t 0],ga 6 (.box (some 27)) [.t 2],ga 7 (.box (some 59)) [.t 3],ga 8 .mv [(.c (.al true none []))],ga 9 .mv [kc 0]]) (.seq (.af [ga 13 (.ld (some 59)) [.t 7],ga 14 (.call 68) [.t 13],gm 12 14,ga 15 (.ext 0) [.t 12],ga 16 (.ext 1) [.t 12],gm 10 15,gm 11 16]) (.seq (.seq (.af [gm 17 11,ga 18 (.bin .num .neq) [.t 17,kc 0]]) (.cond (.t 18) (.seq (.af [gm 19 11,ga 8 .mv [(.c (.al true none []))],gm 9 19]) .ret) .skip)) (.seq (.af [ga 20 (.ld (some 27)) [.t 4],gm 21 1,ga 22 (.nU 27 none false false) [.t 6],gm 23 10,ga 24 (.call 69) [.t 20,.t 21,.t 22,.t 23],gm 8 24,ga 9 .mv [kc 0]]) .ret))))
abbrev F30 :Go.Vm.Fn:=⟨25,B30,[(.t 8),(.t 9)],true⟩
theorem Va :bH Tryz.prog ob Tryz.f30 true=some F30:=by kernel_rfl
theorem Vb :B30.fits 25=true:=by kernel_rfl
def B31 :Go.Vm.C:=(.seq (.af [ga 2 (.box (some 35)) [.t 0],ga 3 (.box (some 27)) [.t 1],ga 4 (.eS (some 35) (.st 35 [ku,ku,ku,(bC 27),ki])) [],ga 5 .mv [kb false]]) (.seq (.af [ga 7 (.ld (some 35)) [.t 2],ga 6 (.eS (some 35) (.st 35 [ku,ku,ku,(bC 27),ki])) [],gn (.aY (some 35)) [.t 6,.t 7]]) (.seq (.af [ga 8 (.fa 35 1) [.t 2],ga 9 (.ld none) [.t 8],ga 10 (.bin .num .add) [.t 9,(.c (.s (.int .u64 1)))],ga 11 (.fa 35 1) [.t 2],gn (.aY none) [.t 11,.t 10]]) (.seq (.af [ga 12 (.ld (some 27)) [.t 3],ga 13 (.fa 35 3) [.t 2],gn (.aY (some 27)) [.t 13,.t 12]]) (.seq (.af [ga 14 (.ld (some 35)) [.t 6],ga 15 (.ld (some 35)) [.t 2],ga 16 (.call 53) [.t 14,.t 15],ga 17 (.ext 0) [.t 16],ga 18 (.ext 1) [.t 16],gn (.aY (some 35)) [.t 4,.t 17],gm 5 18]) .ret)))))
abbrev F31 :Go.Vm.Fn:=⟨19,B31,[(.cell 4 (some 35)),(.t 5)],true⟩
theorem Vc :bH Tryz.prog ob Tryz.f31 true=some F31:=by kernel_rfl
theorem Vd :B31.fits 19=true:=by kernel_rfl
def B32 :Go.Vm.C:=(.seq (.af [ga 2 (.box (some 27)) [.t 0],ga 4 (.eS (some 27) (bC 27)) []]) (.seq (.bL [gl 0 1 (ga 5 (.ld (some 27)) [.t 2]),gl 0 0 (gm 6 1),gl 0 1 (ga 7 (.call 71) [.t 6]),gl 1 2 (ga 8 (.call 70) [.t 5,.t 7]),gl 2 3 (gn (.aY (some 27)) [.t 4,.t 8])]) .ret))
abbrev F32 :Go.Vm.Fn:=⟨9,B32,[(.cell 4 (some 27))],true⟩
theorem Ve :bH Tryz.prog ob Tryz.f32 true=some F32:=by kernel_rfl
theorem Vf :B32.fits 9=true:=by kernel_rfl
def B33 :Go.Vm.C:=(.seq (.af [ga 6 .mv [kb false]]) (.seq (.seq (.af [gm 7 0,ga 8 (.call 35) [.t 7],ga 9 (.un .not) [.t 8]]) (.cond (.t 9) (.seq (.af [ga 6 .mv [kb false]]) .ret) .skip)) (.seq (.af [gm 10 0,ga 11 .aU [.t 10],ga 12 (.fa 73 5) [.t 11],ga 13 (.ld none) [.t 12],gm 14 1,gm 15 2,ga 16 (.call 72) [.t 13,.t 14,.t 15]]) (.seq (.seq (.af [gm 17 0,ga 18 (.call 35) [.t 17],ga 19 (.un .not) [.t 18]]) (.cond (.t 19) (.seq (.af [ga 6 .mv [kb false]]) .ret) .skip)) (.seq (.af [gm 20 0,ga 21 .aU [.t 20],ga 22 (.fa 73 5) [.t 21],ga 23 (.ld none) [.t 22],ga 24 (.call 73) [.t 23]]) (.seq (.af [ga 6 .mv [kb true]]) .ret))))))
abbrev F33 :Go.Vm.Fn:=⟨25,B33,[(.t 6)],false⟩
theorem Vg :bH Tryz.prog ob Tryz.f33 false=some F33:=by kernel_rfl
theorem Vh :B33.fits 25=true:=by kernel_rfl
def B34 :Go.Vm.C:=(.seq (.af [ga 1 (.box (some 35)) [.t 0],ga 2 .mv [kc 0]]) (.seq (.af [ga 4 (.ld (some 35)) [.t 1],ga 5 (.call 25) [.t 4],gm 3 5]) (.seq (.seq (.af [gm 6 3,ga 7 (.bin .num .geq) [.t 6,kc 8]]) (.cond (.t 7) (.seq (.af [ga 2 .mv [kc (-1)]]) .ret) .skip)) (.seq (.af [gm 8 3,ga 9 (.bin .num .add) [kc 2,.t 8],gm 2 9]) .ret))))
abbrev F34 :Go.Vm.Fn:=⟨10,B34,[(.t 2)],true⟩
theorem Vi :bH Tryz.prog ob Tryz.f34 true=some F34:=by kernel_rfl
theorem Vj :B34.fits 10=true:=by kernel_rfl
def B35 :Go.Vm.C:=(.seq (.af [ga 2 .mv [kb false]]) (.seq (.seq (.af [gm 3 0,ga 4 .aU [.t 3],ga 5 (.fa 73 8) [.t 4],ga 6 (.ld none) [.t 5],ga 7 (.bin .num .eql) [.t 6,kc 0]]) (.cond (.t 7) (.seq (.af [gm 8 0,gm 9 0,ga 10 .aU [.t 9],ga 11 (.fa 73 9) [.t 10],ga 12 (.ld none) [.t 11],ga 13 (.call 22) [.t 8,.t 12]]) (.seq (.af [ga 2 .mv [kb false]]) .ret)) .skip)) (.seq (.seq (.af [gm 14 0,ga 15 .aU [.t 14],ga 16 (.fa 73 8) [.t 15],ga 17 (.ld none) [.t 16],ga 18 (.bin .num .gtr) [.t 17,kc 0]]) (.cond (.t 18) (.af [gm 19 0,ga 20 .aU [.t 19],ga 21 (.fa 73 8) [.t 20],ga 22 (.ld none) [.t 21],ga 23 (.bin .num .sub) [.t 22,kc 1],ga 24 .aU [.t 19],ga 25 (.fa 73 8) [.t 24],gn (.aY none) [.t 25,.t 23]]) .skip)) (.seq (.af [gm 26 0,ga 27 .aU [.t 26],ga 28 (.fa 73 7) [.t 27],ga 29 (.ld none) [.t 28],ga 30 (.bin .num .add) [.t 29,kc 1],ga 31 .aU [.t 26],ga 32 (.fa 73 7) [.t 31],gn (.aY none) [.t 32,.t 30]]) (.seq (.af [ga 2 .mv [kb true]]) .ret)))))
abbrev F35 :Go.Vm.Fn:=⟨33,B35,[(.t 2)],false⟩
theorem Vk :bH Tryz.prog ob Tryz.f35 false=some F35:=by kernel_rfl
theorem Vl :B35.fits 33=true:=by kernel_rfl
def B36 :Go.Vm.C:=(.seq (.af [ga 3 (.box (some 59)) [.t 1],ga 4 .mv [kc 0]]) (.seq (.seq (.af [gm 7 0,ga 8 (.ld (some 59)) [.t 3],ga 9 (.call 29) [.t 7,.t 8],gm 5 9]) (.seq (.af [gm 10 5,ga 11 (.bin .num .neq) [.t 10,kc 0]]) (.cond (.t 11) (.seq (.af [gm 12 5,gm 4 12]) .ret) .skip))) (.seq (.seq (.af [ga 13 (.fa 59 0) [.t 3],ga 14 (.ld none) [.t 13],ga 15 (.bin .num .eql) [.t 14,kc 1]]) (.cond (.t 15) (.seq (.bL [gl 0 1 (gm 16 0),gl 0 1 (ga 17 .aU [.t 16]),gl 0 1 (ga 18 (.fa 103 2) [.t 17]),gl 0 1 (ga 19 (.ld none) [.t 18]),gl 0 0 (ga 20 (.fa 59 4) [.t 3]),gl 0 0 (ga 21 (.fa 56 0) [.t 20]),gl 0 0 (ga 22 (.ld (some 54)) [.t 21]),gl 0 1 (ga 23 (.call 74) [.t 22]),gl 1 1 (ga 24 (.de (some 107)) [.t 19,.t 23]),gl 1 1 (ga 25 (.fa 107 3) [.t 24]),gl 1 1 (ga 26 (.ld none) [.t 25]),gl 0 1 (ga 27 (.fa 59 4) [.t 3]),gl 0 1 (ga 28 (.ld (some 56)) [.t 27]),gl 1 2 (ga 29 (.call 75) [.t 26,.t 28]),gl 2 2 (gm 4 29)]) .ret) .skip)) (.seq (.af [gm 30 0,ga 31 .aU [.t 30],ga 32 (.fa 103 2) [.t 31],ga 33 (.ld none) [.t 32],ga 34 (.fa 59 1) [.t 3],ga 35 (.ld none) [.t 34],ga 36 (.de (some 107)) [.t 33,.t 35],gm 6 36]) (.seq (.af [gm 37 6,ga 38 (.fa 59 3) [.t 3],ga 39 (.ld none) [.t 38],ga 40 .aU [.t 37],ga 41 (.fa 107 1) [.t 40],gn (.aY none) [.t 41,.t 39]]) (.seq (.seq (.af [ga 42 (.fa 59 0) [.t 3],ga 43 (.ld none) [.t 42]]) (.block 0 (.seq (.af [ga 55 (.bin .num .eql) [.t 43,kc 2],gm 54 55]) (.cond (.t 54) (.bL [gl 0 0 (gm 56 6),gl 0 1 (gm 57 6),gl 0 1 (ga 58 (.fa 59 2) [.t 3]),gl 0 1 (ga 59 (.ld none) [.t 58]),gl 0 0 (ga 60 .aU [.t 56]),gl 0 0 (ga 61 (.fa 107 0) [.t 60]),gl 0 1 (gn (.aY none) [.t 61,kc 2]),gl 1 1 (ga 62 .aU [.t 57]),gl 1 1 (ga 63 (.fa 107 2) [.t 62]),gl 1 2 (gn (.aY none) [.t 63,.t 59])]) (.seq (.af [ga 65 (.bin .num .eql) [.t 43,kc 3],gm 64 65]) (.cond (.t 64) (.seq (.af [gm 66 6,gm 67 6,ga 68 .aU [.t 66],ga 69 (.fa 107 0) [.t 68],gn (.aY none) [.t 69,kc 1],ga 70 .aU [.t 67],ga 71 (.fa 107 2) [.t 70],gn (.aY none) [.t 71,kc 0]]) (.seq (.af [gm 72 6,ga 73 .aU [.t 72],ga 74 (.fa 107 3) [.t 73],ga 75 (.ld none) [.t 74],ga 76 (.fa 59 5) [.t 3],ga 77 (.ld none) [.t 76],ga 78 (.call 76) [.t 75,.t 77],gm 4 78]) .ret)) (.af [gm 44 6,gm 45 6,gm 46 6,ga 47 (.call 49) [],ga 48 .aU [.t 44],ga 49 (.fa 107 0) [.t 48],gn (.aY none) [.t 49,kc 0],ga 50 .aU [.t 45],ga 51 (.fa 107 2) [.t 50],gn (.aY none) [.t 51,kc 0],ga 52 .aU [.t 46],ga 53 (.fa 107 3) [.t 52],gn (.aY none) [.t 53,.t 47]]))))))) (.seq (.af [ga 4 .mv [kc 0]]) .ret)))))))
abbrev F36 :Go.Vm.Fn:=⟨79,B36,[(.t 4)],false⟩
theorem Vn :bH Tryz.prog ob Tryz.f36 false=some F36:=by kernel_rfl
theorem Vo :B36.fits 79=true:=by kernel_rfl
def iF :Go.Vm.C:=(.loop (.seq (.seq (.af [gm 83 9,ga 84 (.fa 59 5) [.t 3],ga 85 (.ld none) [.t 84],ga 86 .len [.t 85],ga 87 (.bin .num .lss) [.t 83,.t 86]]) (.cond (.t 87) .skip (.exit 1))) (.seq (.block 2 (.seq (.bL [gl 0 0 (ga 90 (.fa 59 5) [.t 3]),gl 0 0 (ga 91 (.ld none) [.t 90]),gl 0 0 (gm 92 9),gl 0 0 (ga 93 (.de (some 56)) [.t 91,.t 92]),gl 0 0 (ga 94 (.fa 56 0) [.t 93]),gl 0 0 (ga 95 (.ld (some 54)) [.t 94]),gl 0 1 (ga 96 (.call 38) [.t 95]),gl 0 1 (ga 97 (.fa 59 1) [.t 3]),gl 0 1 (ga 98 (.ld none) [.t 97]),gl 1 1 (ga 99 (.bin .num .neq) [.t 96,.t 98])]) (.cond (.t 99) (.seq (.af [ga 4 .mv [kc 1]]) .ret) .skip))) (.af [gm 88 9,ga 89 (.bin .num .add) [.t 88,kc 1],gm 9 89]))))
def iG :Go.Vm.C:=(.seq (.seq (.af [gm 100 0,ga 101 (.fa 59 1) [.t 3],ga 102 (.ld none) [.t 101],ga 103 .aU [.t 100],ga 104 (.fa 78 2) [.t 103],ga 105 (.fg 77) [.t 104,.t 102],ga 106 (.fa 75 0) [.t 105],ga 107 (.ld none) [.t 106],ga 108 (.bin .num .eql) [.t 107,kc 1]]) (.cond (.t 108) (.seq (.af [ga 4 .mv [kc 26]]) .ret) .skip)) (.seq (.af [ga 109 (.fa 59 3) [.t 3],ga 110 (.ld none) [.t 109],gm 111 0,ga 112 (.fa 59 1) [.t 3],ga 113 (.ld none) [.t 112],ga 114 .aU [.t 111],ga 115 (.fa 78 2) [.t 114],ga 116 (.fg 77) [.t 115,.t 113],ga 117 (.fa 75 1) [.t 116],ga 118 (.ld none) [.t 117],ga 119 (.bin .num .leq) [.t 110,.t 118]]) (.cond (.t 119) (.seq (.af [ga 4 .mv [kc 31]]) .ret) .skip)))
def yq :Go.Vm.C:=(.seq (.af [ga 3 (.box (some 59)) [.t 1],ga 4 .mv [kc 0]]) (.seq (.seq (.af [ga 10 (.ld (some 59)) [.t 3],ga 11 (.call 77) [.t 10],ga 12 (.un .not) [.t 11]]) (.cond (.t 12) (.seq (.af [ga 4 .mv [kc 1]]) .ret) .skip)) (.seq (.seq (.af [ga 13 (.fa 59 0) [.t 3],ga 14 (.ld none) [.t 13]]) (.block 0 (.seq (.af [ga 16 (.bin .num .eql) [.t 14,kc 1],gm 15 16]) (.cond (.t 15) (.seq (.af [gm 18 0,ga 19 (.fa 59 4) [.t 3],ga 20 (.fa 56 0) [.t 19],ga 21 (.ld (some 54)) [.t 20],ga 22 (.call 78) [.t 18,.t 21],gm 17 22,ga 23 (.ext 0) [.t 17],ga 24 (.ext 1) [.t 17],gm 5 23,gm 6 24]) (.seq (.seq (.af [gm 25 0,gm 26 5,ga 27 (.call 79) [.t 25,.t 26],gm 7 27]) (.seq (.af [gm 28 7,ga 29 (.bin .num .neq) [.t 28,kc 0]]) (.cond (.t 29) (.seq (.af [gm 30 7,gm 4 30]) .ret) .skip))) (.seq (.af [gm 31 6,ga 32 (.bin .num .lss) [.t 31,kc 0],gm 33 32,gw 33 true 34 .mv [.t 0],gw 33 true 35 .mv [.t 5],gw 33 true 36 .aU [.t 34],gw 33 true 37 (.fa 78 2) [.t 36],gw 33 true 38 (.fg 77) [.t 37,.t 35],gw 33 true 39 (.fa 75 3) [.t 38],gw 33 true 40 (.ld none) [.t 39],gw 33 true 41 .len [.t 40],gw 33 true 42 (.bin .num .geq) [.t 41,kc 4],ga 43 .pick [.t 33,.t 42,kb false]]) (.cond (.t 43) (.seq (.af [ga 4 .mv [kc 13]]) .ret) .skip)))) (.seq (.af [ga 45 (.bin .num .eql) [.t 14,kc 2],gm 44 45]) (.cond (.t 44) (.seq (.seq (.af [ga 46 (.fa 59 2) [.t 3],ga 47 (.ld none) [.t 46],gm 48 0,ga 49 .aU [.t 48],ga 50 (.fa 78 1) [.t 49],ga 51 (.ld none) [.t 50],ga 52 (.bin .num .geq) [.t 47,.t 51],gm 53 52,gw 53 false 54 (.fa 59 2) [.t 3],gw 53 false 55 (.ld none) [.t 54],gw 53 false 56 .mv [.t 0],gw 53 false 57 .aU [.t 56],gw 53 false 58 (.fa 78 0) [.t 57],gw 53 false 59 (.ld none) [.t 58],gw 53 false 60 (.bin .num .eql) [.t 55,.t 59],ga 61 .pick [.t 53,kb true,.t 60]]) (.cond (.t 61) (.seq (.af [ga 4 .mv [kc 1]]) .ret) .skip)) (.seq (.seq (.af [gm 62 0,ga 63 (.fa 59 1) [.t 3],ga 64 (.ld none) [.t 63],ga 65 (.call 79) [.t 62,.t 64],gm 8 65]) (.seq (.af [gm 66 8,ga 67 (.bin .num .neq) [.t 66,kc 0]]) (.cond (.t 67) (.seq (.af [gm 68 8,gm 4 68]) .ret) .skip))) (.seq (.af [ga 69 (.fa 59 3) [.t 3],ga 70 (.ld none) [.t 69],gm 71 0,ga 72 (.fa 59 1) [.t 3],ga 73 (.ld none) [.t 72],ga 74 .aU [.t 71],ga 75 (.fa 78 2) [.t 74],ga 76 (.fg 77) [.t 75,.t 73],ga 77 (.fa 75 1) [.t 76],ga 78 (.ld none) [.t 77],ga 79 (.bin .num .add) [.t 78,(.c (.s (.int .u64 1)))],ga 80 (.bin .num .neq) [.t 70,.t 79]]) (.cond (.t 80) (.seq (.af [ga 4 .mv [kc 1]]) .ret) .skip)))) (.seq (.af [ga 82 (.bin .num .eql) [.t 14,kc 3],gm 81 82]) (.cond (.t 81) (.seq (.seq (.af [ga 9 .mv [kc 0]]) (.block 1 iF)) iG) (.seq (.af [ga 121 (.bin .num .eql) [.t 14,kc 4],gm 120 121]) (.cond (.t 120) (.seq (.af [gm 122 0,ga 123 (.fa 59 1) [.t 3],ga 124 (.ld none) [.t 123],ga 125 .aU [.t 122],ga 126 (.fa 78 2) [.t 125],ga 127 (.fg 77) [.t 126,.t 124],ga 128 (.fa 75 0) [.t 127],ga 129 (.ld none) [.t 128],ga 130 (.bin .num .neq) [.t 129,kc 2],gm 131 130,gw 131 false 132 .mv [.t 0],gw 131 false 133 (.fa 59 1) [.t 3],gw 131 false 134 (.ld none) [.t 133],gw 131 false 135 .aU [.t 132],gw 131 false 136 (.fa 78 2) [.t 135],gw 131 false 137 (.fg 77) [.t 136,.t 134],gw 131 false 138 (.fa 75 1) [.t 137],gw 131 false 139 (.ld none) [.t 138],gw 131 false 140 (.fa 59 3) [.t 3],gw 131 false 141 (.ld none) [.t 140],gw 131 false 142 (.bin .num .neq) [.t 139,.t 141],ga 143 .pick [.t 131,kb true,.t 142]]) (.cond (.t 143) (.seq (.af [ga 4 .mv [kc 26]]) .ret) .skip)) .skip)))))))))) (.seq (.af [ga 4 .mv [kc 0]]) .ret))))
abbrev F37 :Go.Vm.Fn:=⟨144,yq,[(.t 4)],true⟩
theorem Vp :bH Tryz.prog ob Tryz.f37 true=some F37:=by kernel_rfl
theorem Vq :yq.fits 144=true:=by kernel_rfl
def B38 :Go.Vm.C:=(.seq (.af [ga 1 (.box (some 54)) [.t 0],ga 2 .mv [kc 0]]) (.seq (.af [ga 4 (.nU 54 none false false) [.t 1],ga 5 (.call 80) [.t 4],ga 3 (.eS (some 27) (bC 27)) [],gn (.aY (some 27)) [.t 3,.t 5]]) (.seq (.af [ga 6 (.fg 27) [.t 3,kc 0],ga 7 (.ld none) [.t 6],ga 8 (.bin .num .rem) [.t 7,(.c (.s (.int .u8 16)))],ga 9 (.gO .i64) [.t 8],gm 2 9]) .ret)))
abbrev F38 :Go.Vm.Fn:=⟨10,B38,[(.t 2)],true⟩
theorem Vr :bH Tryz.prog ob Tryz.f38 true=some F38:=by kernel_rfl
theorem Vs :B38.fits 10=true:=by kernel_rfl
def O2 :Go.Vm.C:=(.loop (.seq (.seq (.af [gm 8 7,gm 9 0,ga 10 .len [.t 9],ga 11 (.bin .num .lss) [.t 8,.t 10]]) (.cond (.t 11) .skip (.exit 0))) (.seq (.block 1 (.seq (.seq (.af [gm 14 6,ga 15 (.un .not) [.t 14],gm 16 15,gw 16 true 17 (.fa 56 0) [.t 3],gw 16 true 18 (.nU 54 none false false) [.t 17],gw 16 true 19 .yp [.t 18],gw 16 true 20 .mv [.t 0],gw 16 true 21 .mv [.t 7],gw 16 true 22 (.de (some 56)) [.t 20,.t 21],gw 16 true 23 (.fa 56 0) [.t 22],gw 16 true 24 (.nU 54 none false false) [.t 23],gw 16 true 25 .yp [.t 24],gw 16 true 26 (.bin .num .leq) [.t 19,.t 25],ga 27 .pick [.t 16,.t 26,kb false]]) (.cond (.t 27) (.seq (.af [gm 28 5,ga 29 (.ld (some 56)) [.t 3],ga 30 (.gT (some 56) [(.st 56 [(z4 54),ku,(bC 27),kx,ki,ki,(bC 27),(.s (.bool false)),(.s (.bool false))])] [0]) [.t 29],ga 31 (.app (some 56) 96) [.t 28,.t 30],gm 5 31]) (.af [ga 6 .mv [kb true]])) .skip)) (.seq (.af [gm 32 0,gm 33 7,ga 34 (.de (some 56)) [.t 32,.t 33],ga 35 (.fa 56 0) [.t 34],ga 36 (.ld (some 54)) [.t 35],ga 37 (.fa 56 0) [.t 3],ga 38 (.ld (some 54)) [.t 37],ga 39 (.ve 54 .u8 true) [.t 36,.t 38]]) (.cond (.t 39) (.af [gm 40 5,gm 41 0,gm 42 7,ga 43 (.de (some 56)) [.t 41,.t 42],ga 44 (.ld (some 56)) [.t 43],ga 45 (.gT (some 56) [(.st 56 [(z4 54),ku,(bC 27),kx,ki,ki,(bC 27),(.s (.bool false)),(.s (.bool false))])] [0]) [.t 44],ga 46 (.app (some 56) 96) [.t 40,.t 45],gm 5 46]) .skip)))) (.af [gm 12 7,ga 13 (.bin .num .add) [.t 12,kc 1],gm 7 13]))))
def O3 :Go.Vm.C:=(.seq (.seq (.af [gm 47 6,ga 48 (.un .not) [.t 47]]) (.cond (.t 48) (.af [gm 49 5,ga 50 (.ld (some 56)) [.t 3],ga 51 (.gT (some 56) [(.st 56 [(z4 54),ku,(bC 27),kx,ki,ki,(bC 27),(.s (.bool false)),(.s (.bool false))])] [0]) [.t 50],ga 52 (.app (some 56) 96) [.t 49,.t 51],gm 5 52]) .skip)) (.seq (.af [gm 53 5,gm 4 53]) .ret))
def B39 :Go.Vm.C:=(.seq (.af [ga 3 (.box (some 56)) [.t 1],ga 4 .mv [(.c (.al true (some 56) []))]]) (.seq (.af [ga 5 .mv [(.c (.al true (some 56) []))]]) (.seq (.af [ga 6 .mv [kb false]]) (.seq (.seq (.af [ga 7 .mv [kc 0]]) (.block 0 O2)) O3))))
abbrev F39 :Go.Vm.Fn:=⟨54,B39,[(.t 4)],true⟩
theorem Vt :bH Tryz.prog ob Tryz.f39 true=some F39:=by kernel_rfl
theorem Vu :B39.fits 54=true:=by kernel_rfl
def O4 :Go.Vm.C:=(.loop (.seq (.af [ga 21 (.bin .num .lss) [.t 20,.t 19]]) (.seq (.cond (.t 21) .skip (.exit 0)) (.seq (.block 1 (.seq (.af [gm 22 20,ga 23 (.de (some 107)) [.t 18,.t 20],ga 24 (.ld (some 107)) [.t 23],ga 5 (.eS (some 107) (.st 107 [ki,ku,ki,(.s (.pointer none))])) [],gm 4 22,gn (.aY (some 107)) [.t 5,.t 24]]) (.bL [gl 0 1 (gm 25 3),gl 0 1 (gm 26 4),gl 0 1 (ga 27 (.fa 107 0) [.t 5]),gl 0 1 (ga 28 (.ld none) [.t 27]),gl 0 1 (ga 29 (.fa 107 1) [.t 5]),gl 0 1 (ga 30 (.ld none) [.t 29]),gl 0 1 (ga 31 (.fa 107 2) [.t 5]),gl 0 1 (ga 32 (.ld none) [.t 31]),gl 0 0 (ga 33 (.fa 107 3) [.t 5]),gl 0 0 (ga 34 (.ld none) [.t 33]),gl 0 1 (ga 35 (.call 82) [.t 34]),gl 1 2 (ga 36 (.call 81) [.t 25,.t 26,.t 28,.t 30,.t 32,.t 35])]))) (.af [ga 37 (.bin .num .add) [.t 20,kc 1],gm 20 37])))))
def O5 :Go.Vm.C:=(.seq (.af [gm 38 3,gm 2 38]) .ret)
def B40 :Go.Vm.C:=(.seq (.af [ga 2 .mv [(.c (.s (.pointer none)))]]) (.seq (.af [gm 6 0,ga 7 .aU [.t 6],ga 8 (.fa 103 0) [.t 7],ga 9 (.ld none) [.t 8],gm 10 0,ga 11 .aU [.t 10],ga 12 (.fa 103 1) [.t 11],ga 13 (.ld none) [.t 12],ga 14 (.call 19) [.t 9,.t 13],gm 3 14]) (.seq (.seq (.af [gm 15 0,ga 16 .aU [.t 15],ga 17 (.fa 103 2) [.t 16],ga 18 (.ld none) [.t 17],ga 19 .len [.t 18],ga 20 .mv [kc 0]]) (.block 0 O4)) O5)))
abbrev F40 :Go.Vm.Fn:=⟨39,B40,[(.t 2)],false⟩
theorem Vv :bH Tryz.prog ob Tryz.f40 false=some F40:=by kernel_rfl
theorem Vw :B40.fits 39=true:=by kernel_rfl
def B41 :Go.Vm.C:=(.seq (.af [ga 2 .mv [kc 0],ga 3 .mv [kc 0]]) (.seq (.af [gm 4 0,ga 5 .aU [.t 4],ga 6 (.fa 103 0) [.t 5],ga 7 (.ld none) [.t 6],gm 8 0,ga 9 .aU [.t 8],ga 10 (.fa 103 1) [.t 9],ga 11 (.ld none) [.t 10],gm 2 7,gm 3 11]) .ret))
abbrev F41 :Go.Vm.Fn:=⟨12,B41,[(.t 2),(.t 3)],true⟩
theorem Vx :bH Tryz.prog ob Tryz.f41 true=some F41:=by kernel_rfl
theorem Vy :B41.fits 12=true:=by kernel_rfl
def B42 :Go.Vm.C:=(.seq (.af [ga 4 .mv [kc 0],ga 5 .mv [(.c ku)],ga 6 .mv [kc 0]]) (.seq (.seq (.af [gm 8 1,ga 9 (.call 83) [.t 8],ga 10 (.un .not) [.t 9]]) (.cond (.t 10) (.seq (.af [ga 4 .mv [kc 0],ga 5 .mv [(.c ku)],ga 6 .mv [kc 0]]) .ret) .skip)) (.seq (.af [gm 11 0,ga 12 .aU [.t 11],ga 13 (.fa 103 2) [.t 12],ga 14 (.ld none) [.t 13],gm 15 1,ga 16 (.de (some 107)) [.t 14,.t 15],ga 17 (.ld (some 107)) [.t 16],ga 7 (.eS (some 107) (.st 107 [ki,ku,ki,(.s (.pointer none))])) [],gn (.aY (some 107)) [.t 7,.t 17]]) (.seq (.af [ga 18 (.fa 107 0) [.t 7],ga 19 (.ld none) [.t 18],ga 20 (.fa 107 1) [.t 7],ga 21 (.ld none) [.t 20],ga 22 (.fa 107 2) [.t 7],ga 23 (.ld none) [.t 22],gm 4 19,gm 5 21,gm 6 23]) .ret))))
abbrev F42 :Go.Vm.Fn:=⟨24,B42,[(.t 4),(.t 5),(.t 6)],true⟩
theorem Vz :bH Tryz.prog ob Tryz.f42 true=some F42:=by kernel_rfl
theorem VA :B42.fits 24=true:=by kernel_rfl
def B43 :Go.Vm.C:=(.seq (.af [ga 4 .mv [(.c (.al true (some 56) []))]]) (.seq (.seq (.af [gm 5 1,ga 6 (.call 83) [.t 5],ga 7 (.un .not) [.t 6],gm 8 7,gw 8 false 9 .mv [.t 0],gw 8 false 10 .aU [.t 9],gw 8 false 11 (.fa 103 2) [.t 10],gw 8 false 12 (.ld none) [.t 11],gw 8 false 13 .mv [.t 1],gw 8 false 14 (.de (some 107)) [.t 12,.t 13],gw 8 false 15 (.fa 107 0) [.t 14],gw 8 false 16 (.ld none) [.t 15],gw 8 false 17 (.bin .num .eql) [.t 16,kc 0],ga 18 .pick [.t 8,kb true,.t 17]]) (.cond (.t 18) (.seq (.af [ga 4 .mv [(.c (.al true (some 56) []))]]) .ret) .skip)) (.seq (.af [gm 19 0,ga 20 .aU [.t 19],ga 21 (.fa 103 2) [.t 20],ga 22 (.ld none) [.t 21],gm 23 1,ga 24 (.de (some 107)) [.t 22,.t 23],ga 25 (.fa 107 3) [.t 24],ga 26 (.ld none) [.t 25],ga 27 (.call 82) [.t 26],gm 4 27]) .ret)))
abbrev F43 :Go.Vm.Fn:=⟨28,B43,[(.t 4)],true⟩
theorem VB :bH Tryz.prog ob Tryz.f43 true=some F43:=by kernel_rfl
theorem VC :B43.fits 28=true:=by kernel_rfl
def HG :Go.Vm.C:=(.loop (.seq (.af [ga 9 (.bin .num .lss) [.t 8,.t 7]]) (.seq (.cond (.t 9) .skip (.exit 0)) (.seq (.block 1 (.seq (.af [gm 10 8,gm 4 10]) (.af [gm 11 3,gm 12 4,gm 13 0,gm 14 4,ga 15 (.bin .num .sub) [kc 7,.t 14],ga 16 (.bin .num .mul) [kc 8,.t 15],ga 17 (.bin .num .shr) [.t 13,.t 16],ga 18 (.gO .u8) [.t 17],ga 19 (.de none) [.t 11,.t 12],gn (.aY none) [.t 19,.t 18]]))) (.af [ga 20 (.bin .num .add) [.t 8,kc 1],gm 8 20])))))
def HH :Go.Vm.C:=(.seq (.af [gm 21 3,gm 2 21]) .ret)
def B44 :Go.Vm.C:=(.seq (.af [ga 2 .mv [(.c (.al true none []))]]) (.seq (.af [ga 5 (.mks none (.s (.int .u8 0))) [kc 8,kc 8],gm 3 5]) (.seq (.seq (.af [gm 6 3,ga 7 .len [.t 6],ga 8 .mv [kc 0]]) (.block 0 HG)) HH)))
abbrev F44 :Go.Vm.Fn:=⟨22,B44,[(.t 2)],false⟩
theorem VD :bH Tryz.prog ob Tryz.f44 false=some F44:=by kernel_rfl
theorem VE :B44.fits 22=true:=by kernel_rfl
def B45 :Go.Vm.C:=(.seq (.af [ga 1 (.box (some 56)) [.t 0],ga 2 .mv [(.c (.al true none []))],ga 3 .mv [kc 0]]) (.seq (.seq (.af [ga 4 (.ld (some 56)) [.t 1],ga 5 (.call 84) [.t 4],ga 6 (.un .not) [.t 5]]) (.cond (.t 6) (.seq (.af [ga 2 .mv [(.c (.al true none []))],ga 3 .mv [kc 1]]) .ret) .skip)) (.seq (.af [ga 7 (.ld (some 56)) [.t 1],ga 8 (.call 85) [.t 7],gm 2 8,ga 3 .mv [kc 0]]) .ret)))
abbrev F45 :Go.Vm.Fn:=⟨9,B45,[(.t 2),(.t 3)],true⟩
theorem VF :bH Tryz.prog ob Tryz.f45 true=some F45:=by kernel_rfl
theorem VG :B45.fits 9=true:=by kernel_rfl
def O6 :Go.Vm.C:=(.loop (.seq (.seq (.af [gm 6 4,ga 7 (.bin .num .geq) [.t 6,kc 0]]) (.cond (.t 7) .skip (.exit 0))) (.seq (.block 1 (.seq (.af [gm 10 3,gm 11 4,gm 12 0,ga 13 (.gO .u8) [.t 12],ga 14 (.de none) [.t 10,.t 11],gn (.aY none) [.t 14,.t 13]]) (.af [gm 15 0,ga 16 (.bin .num .quo) [.t 15,(.c (.s (.int .u64 256)))],gm 0 16]))) (.af [gm 8 4,ga 9 (.bin .num .sub) [.t 8,kc 1],gm 4 9]))))
def O7 :Go.Vm.C:=(.seq (.af [gm 17 3,gm 2 17]) .ret)
def B46 :Go.Vm.C:=(.seq (.af [ga 2 .mv [(.c (.al true none []))]]) (.seq (.af [ga 5 (.mks none (.s (.int .u8 0))) [kc 8,kc 8],gm 3 5]) (.seq (.seq (.af [ga 4 .mv [kc 7]]) (.block 0 O6)) O7)))
abbrev F46 :Go.Vm.Fn:=⟨18,B46,[(.t 2)],false⟩
theorem VH :bH Tryz.prog ob Tryz.f46 false=some F46:=by kernel_rfl
theorem VI :B46.fits 18=true:=by kernel_rfl
def B47 :Go.Vm.C:=(.seq (.af [ga 1 (.box (some 56)) [.t 0],ga 2 .mv [(.c (.al true none []))]]) (.seq (.bL [gl 0 0 (ga 5 (.gT none [] []) []),gl 0 0 (ga 6 (.fa 56 0) [.t 1]),gl 0 0 (ga 7 (.nU 54 none false false) [.t 6]),gl 0 1 (ga 8 (.app none 1) [.t 5,.t 7]),gl 0 1 (ga 9 (.fa 56 1) [.t 1]),gl 0 1 (ga 10 (.ld none) [.t 9]),gl 1 2 (ga 11 (.call 46) [.t 10]),gl 2 3 (ga 12 (.app none 1) [.t 8,.t 11]),gl 3 3 (gm 3 12)]) (.seq (.af [ga 4 .mv [(.c (.s (.int .u8 0)))]]) (.seq (.seq (.af [ga 13 (.fa 56 7) [.t 1],ga 14 (.ld none) [.t 13]]) (.cond (.t 14) (.af [ga 4 .mv [(.c (.s (.int .u8 1)))]]) .skip)) (.seq (.seq (.af [ga 15 (.fa 56 8) [.t 1],ga 16 (.ld none) [.t 15]]) (.cond (.t 16) (.af [gm 17 4,ga 18 (.bin .num .add) [.t 17,(.c (.s (.int .u8 2)))],gm 4 18]) .skip)) (.seq (.af [gm 19 3,gm 20 4,ga 21 (.fa 56 4) [.t 1],ga 22 (.ld none) [.t 21],ga 23 (.gO .u8) [.t 22],ga 24 (.fa 56 5) [.t 1],ga 25 (.ld none) [.t 24],ga 26 (.gO .u8) [.t 25],ga 27 (.gT none [(.s (.int .u8 0)),(.s (.int .u8 0)),(.s (.int .u8 0))] [0,1,2]) [.t 20,.t 23,.t 26],ga 28 (.app none 1) [.t 19,.t 27],gm 3 28]) (.seq (.bL [gl 0 0 (gm 29 3),gl 0 0 (ga 30 (.fa 56 2) [.t 1]),gl 0 0 (ga 31 (.nU 27 none false false) [.t 30]),gl 0 1 (ga 32 (.app none 1) [.t 29,.t 31]),gl 0 1 (ga 33 (.fa 56 6) [.t 1]),gl 0 1 (ga 34 (.nU 27 none false false) [.t 33]),gl 1 2 (ga 35 (.app none 1) [.t 32,.t 34]),gl 2 2 (gm 3 35)]) (.seq (.bL [gl 0 1 (gm 36 3),gl 0 0 (ga 37 (.fa 56 3) [.t 1]),gl 0 0 (ga 38 (.ld none) [.t 37]),gl 0 0 (ga 39 .len [.t 38]),gl 0 0 (ga 40 (.gO .u8) [.t 39]),gl 0 1 (ga 41 (.gT none [(.s (.int .u8 0))] [0]) [.t 40]),gl 1 2 (ga 42 (.app none 1) [.t 36,.t 41]),gl 0 2 (ga 43 (.fa 56 3) [.t 1]),gl 0 2 (ga 44 (.ld none) [.t 43]),gl 2 3 (ga 45 (.app none 1) [.t 42,.t 44]),gl 3 3 (gm 2 45)]) .ret))))))))
abbrev F47 :Go.Vm.Fn:=⟨46,B47,[(.t 2)],true⟩
theorem VJ :bH Tryz.prog ob Tryz.f47 true=some F47:=by kernel_rfl
theorem VK :B47.fits 46=true:=by kernel_rfl
def B48 :Go.Vm.C:=(.seq (.af [ga 5 (.box (some 27)) [.t 2],ga 6 .mv [(.c (.s (.pointer none)))]]) (.seq (.af [gm 11 0,gm 12 1,ga 13 (.ld (some 27)) [.t 5],ga 14 (.call 4) [.t 11,.t 12,.t 13],gm 10 14,ga 15 (.ext 0) [.t 10],ga 16 (.ext 1) [.t 10],gm 7 15,gm 8 16]) (.seq (.af [gm 17 0,gm 18 1,ga 19 (.ld (some 27)) [.t 5],ga 20 (.call 86) [.t 17,.t 18,.t 19],gm 9 20]) (.seq (.seq (.af [gm 21 7,ga 22 (.bin .ptr .eql) [.t 21,(.c (.s (.pointer none)))],gm 23 22,gw 23 false 24 .mv [.t 8],gw 23 false 25 (.bin .num .neq) [.t 24,kc 0],ga 26 .pick [.t 23,kb true,.t 25],gm 27 26,gw 27 false 28 .mv [.t 9],gw 27 false 29 (.bin .ptr .eql) [.t 28,(.c (.s (.pointer none)))],ga 30 .pick [.t 27,kb true,.t 29]]) (.cond (.t 30) (.seq (.af [ga 6 .mv [(.c (.s (.pointer none)))]]) .ret) .skip)) (.seq (.af [gm 31 7,gm 32 9,ga 33 (.dN 40 [(.s (.pointer none)),(.s (.pointer none)),(.s (.pointer none)),(.s (.pointer none))] [0,1]) [.t 31,.t 32],ga 34 (.box (some 40)) [.t 33],gm 6 34]) .ret)))))
abbrev F48 :Go.Vm.Fn:=⟨35,B48,[(.t 6)],false⟩
theorem VL :bH Tryz.prog ob Tryz.f48 false=some F48:=by kernel_rfl
theorem VM :B48.fits 35=true:=by kernel_rfl
def B49 :Go.Vm.C:=(.seq (.af [ga 0 .mv [(.c (.s (.pointer none)))]]) (.seq (.af [ga 1 (.dN 141 [(.al true (some 56) [])] []) [],ga 2 (.box (some 141)) [.t 1],gm 0 2]) .ret))
abbrev F49 :Go.Vm.Fn:=⟨3,B49,[(.t 0)],false⟩
theorem VN :bH Tryz.prog ob Tryz.f49 false=some F49:=by kernel_rfl
theorem VO :B49.fits 3=true:=by kernel_rfl
def B50 :Go.Vm.C:=(.seq (.af [ga 4 .mv [kc 0]]) (.seq (.seq (.af [gm 5 0,ga 6 (.call 83) [.t 5],ga 7 (.un .not) [.t 6]]) (.cond (.t 7) (.seq (.af [ga 4 .mv [kc 0]]) .ret) .skip)) (.seq (.af [gm 8 0,gm 9 1,ga 10 .min [.t 9,kc 8],ga 11 .max [kc 1,.t 10],ga 12 (.bin .num .rem) [.t 8,.t 11],gm 4 12]) .ret)))
abbrev F50 :Go.Vm.Fn:=⟨13,B50,[(.t 4)],true⟩
theorem VP :bH Tryz.prog ob Tryz.f50 true=some F50:=by kernel_rfl
theorem VQ :B50.fits 13=true:=by kernel_rfl
def B51 :Go.Vm.C:=(.seq (.af [ga 2 (.box (some 27)) [.t 0],ga 4 (.eS (some 27) (bC 27)) []]) (.seq (.af [ga 5 (.nU 27 none false false) [.t 2],ga 6 (.call 87) [.t 5],gm 7 1,ga 8 (.app none 1) [.t 6,.t 7],ga 9 (.call 71) [.t 8],gn (.aY (some 27)) [.t 4,.t 9]]) .ret))
abbrev F51 :Go.Vm.Fn:=⟨10,B51,[(.cell 4 (some 27))],true⟩
theorem VR :bH Tryz.prog ob Tryz.f51 true=some F51:=by kernel_rfl
theorem VT :B51.fits 10=true:=by kernel_rfl
def B52 :Go.Vm.C:=(.seq (.af [gm 4 0,gm 5 0,ga 6 .aU [.t 5],ga 7 (.fa 113 1) [.t 6],ga 8 (.ld (some 112)) [.t 7],ga 9 .aU [.t 4],ga 10 (.fa 113 0) [.t 9],gn (.aY (some 112)) [.t 10,.t 8]]) (.seq (.seq (.af [gm 11 0,ga 12 .aU [.t 11],ga 13 (.fa 113 2) [.t 12],ga 14 (.ld none) [.t 13],ga 15 (.bin .num .gtr) [.t 14,kc 0],gm 16 15,gw 16 true 17 .mv [.t 1],gw 16 true 18 (.bin .num .gtr) [.t 17,kc 0],ga 19 .pick [.t 16,.t 18,kb false]]) (.cond (.t 19) (.bL [gl 0 1 (gm 20 0),gl 0 1 (gm 21 0),gl 0 1 (ga 22 .aU [.t 21]),gl 0 1 (ga 23 (.fa 113 3) [.t 22]),gl 0 1 (ga 24 (.ld none) [.t 23]),gl 0 0 (gm 25 0),gl 0 0 (ga 26 .aU [.t 25]),gl 0 0 (ga 27 (.fa 113 4) [.t 26]),gl 0 0 (ga 28 (.ld none) [.t 27]),gl 0 0 (gm 29 1),gl 0 0 (gm 30 0),gl 0 0 (ga 31 .aU [.t 30]),gl 0 0 (ga 32 (.fa 113 4) [.t 31]),gl 0 0 (ga 33 (.ld none) [.t 32]),gl 0 0 (ga 34 .len [.t 33]),gl 0 0 (ga 35 .min [.t 29,.t 34]),gl 0 0 (ga 36 (.j2 none false true false) [.t 28,.t 35]),gl 0 1 (ga 37 (.call 88) [.t 36]),gl 0 1 (ga 38 .aU [.t 20]),gl 0 1 (ga 39 (.fa 113 0) [.t 38]),gl 1 1 (ga 40 (.fg 112) [.t 39,.t 24]),gl 1 2 (gn (.aY (some 110)) [.t 40,.t 37])]) .skip)) (.af [gm 41 0,ga 42 (.call 73) [.t 41]])))
abbrev F52 :Go.Vm.Fn:=⟨43,B52,[],false⟩
theorem VU :bH Tryz.prog ob Tryz.f52 false=some F52:=by kernel_rfl
theorem VV :B52.fits 43=true:=by kernel_rfl
def B53 :Go.Vm.C:=(.seq (.af [ga 2 (.box (some 35)) [.t 0],ga 3 (.box (some 35)) [.t 1],ga 4 (.eS (some 35) (.st 35 [ku,ku,ku,(bC 27),ki])) [],ga 5 .mv [kb false]]) (.seq (.seq (.af [ga 6 (.ld (some 35)) [.t 2],ga 7 (.call 56) [.t 6],ga 8 (.un .not) [.t 7],gm 9 8,gw 9 false 10 (.ld (some 35)) [.t 3],gw 9 false 11 (.call 56) [.t 10],gw 9 false 12 (.un .not) [.t 11],ga 13 .pick [.t 9,kb true,.t 12]]) (.cond (.t 13) (.seq (.af [ga 14 (.dN 35 [ku,ku,ku,(bC 27),ki] []) [],gn (.aY (some 35)) [.t 4,.t 14],ga 5 .mv [kb false]]) .ret) .skip)) (.seq (.af [ga 15 (.ld (some 35)) [.t 3],gn (.aY (some 35)) [.t 4,.t 15],ga 5 .mv [kb true]]) .ret)))
abbrev F53 :Go.Vm.Fn:=⟨16,B53,[(.cell 4 (some 35)),(.t 5)],true⟩
theorem VW :bH Tryz.prog ob Tryz.f53 true=some F53:=by kernel_rfl
theorem VX :B53.fits 16=true:=by kernel_rfl
def CQ :Go.Vm.C:=(.loop (.seq (.af [ga 39 (.bin .num .lss) [.t 38,.t 37]]) (.seq (.cond (.t 39) .skip (.exit 0)) (.seq (.block 1 (.seq (.af [gm 40 38,gm 13 40]) (.seq (.af [gm 42 1,gm 43 13,ga 44 (.bin .num .add) [kc 2,.t 43],ga 45 (.call 90) [.t 42,.t 44],gm 41 45,ga 46 (.ext 0) [.t 41],ga 47 (.ext 1) [.t 41],gm 14 46,gm 15 47]) (.seq (.af [ga 49 (.ld (some 27)) [.t 3],ga 50 (.fa 35 2) [.t 5],ga 51 (.ld none) [.t 50],gm 52 13,ga 53 (.gO .u64) [.t 52],ga 54 (.bin .num .add) [.t 51,.t 53],ga 55 (.bin .num .add) [.t 54,(.c (.s (.int .u64 1)))],ga 56 (.ld (some 27)) [.t 10],gm 57 14,ga 58 (.call 91) [.t 49,.t 55,.t 56,.t 57],gm 48 58,ga 59 (.ext 0) [.t 48],ga 60 (.ext 1) [.t 48],ga 16 (.eS (some 59) (.st 59 [ki,ki,ki,ku,(.st 56 [(z4 54),ku,(bC 27),kx,ki,ki,(bC 27),(.s (.bool false)),(.s (.bool false))]),(.al false (some 56) [])])) [],gn (.aY (some 59)) [.t 16,.t 59],gm 17 60]) (.seq (.seq (.af [gm 61 15,ga 62 (.un .not) [.t 61],gm 63 62,gw 63 false 64 .mv [.t 17],gw 63 false 65 (.bin .num .neq) [.t 64,kc 0],ga 66 .pick [.t 63,kb true,.t 65]]) (.cond (.t 66) (.seq (.af [ga 6 .mv [(.c (.al true none []))],ga 7 .mv [(.c (.al true (some 59) []))],ga 8 .mv [kc 30]]) .ret) .skip)) (.seq (.af [gm 67 12,ga 68 (.ld (some 59)) [.t 16],ga 69 (.gT (some 59) [(.st 59 [ki,ki,ki,ku,(.st 56 [(z4 54),ku,(bC 27),kx,ki,ki,(bC 27),(.s (.bool false)),(.s (.bool false))]),(.al false (some 56) [])])] [0]) [.t 68],ga 70 (.app (some 59) 152) [.t 67,.t 69],gm 12 70]) (.af [ga 71 (.ld (some 27)) [.t 10],gm 72 14,ga 73 (.call 32) [.t 71,.t 72],gn (.aY (some 27)) [.t 10,.t 73]]))))))) (.af [ga 74 (.bin .num .add) [.t 38,kc 1],gm 38 74])))))
def CR :Go.Vm.C:=(.seq (.seq (.af [ga 75 (.ld (some 27)) [.t 10],ga 76 (.fa 35 3) [.t 5],ga 77 (.ld (some 27)) [.t 76],ga 78 (.ve 27 .u8 true) [.t 75,.t 77]]) (.cond (.t 78) (.seq (.af [ga 6 .mv [(.c (.al true none []))],ga 7 .mv [(.c (.al true (some 59) []))],ga 8 .mv [kc 30]]) .ret) .skip)) (.seq (.af [gm 79 9,gm 80 12,gm 6 79,gm 7 80,ga 8 .mv [kc 0]]) .ret))
def B54 :Go.Vm.C:=(.seq (.af [ga 3 (.box (some 27)) [.t 0],ga 5 (.box (some 35)) [.t 2],ga 6 .mv [(.c (.al true none []))],ga 7 .mv [(.c (.al true (some 59) []))],ga 8 .mv [kc 0]]) (.seq (.seq (.af [gm 18 1,ga 19 (.bin .ptr .eql) [.t 18,(.c (.s (.pointer none)))],gm 20 19,gw 20 false 21 (.ld (some 35)) [.t 5],gw 20 false 22 (.call 56) [.t 21],gw 20 false 23 (.un .not) [.t 22],ga 24 .pick [.t 20,kb true,.t 23]]) (.cond (.t 24) (.seq (.af [ga 6 .mv [(.c (.al true none []))],ga 7 .mv [(.c (.al true (some 59) []))],ga 8 .mv [kc 1]]) .ret) .skip)) (.seq (.af [ga 26 (.ld (some 27)) [.t 3],gm 27 1,ga 28 (.ld (some 35)) [.t 5],ga 29 (.call 89) [.t 26,.t 27,.t 28],gm 25 29,ga 30 (.ext 0) [.t 25],ga 31 (.ext 1) [.t 25],ga 32 (.ext 2) [.t 25],ga 10 (.eS (some 27) (bC 27)) [],gm 9 30,gn (.aY (some 27)) [.t 10,.t 31],gm 11 32]) (.seq (.seq (.af [gm 33 11,ga 34 (.bin .num .neq) [.t 33,kc 0]]) (.cond (.t 34) (.seq (.af [gm 35 11,ga 6 .mv [(.c (.al true none []))],ga 7 .mv [(.c (.al true (some 59) []))],gm 8 35]) .ret) .skip)) (.seq (.af [ga 12 .mv [(.c (.al true (some 59) []))]]) (.seq (.seq (.af [ga 36 (.ld (some 35)) [.t 5],ga 37 (.call 25) [.t 36],ga 38 .mv [kc 0]]) (.block 0 CQ)) CR))))))
abbrev F54 :Go.Vm.Fn:=⟨81,B54,[(.t 6),(.t 7),(.t 8)],true⟩
theorem VY :bH Tryz.prog ob Tryz.f54 true=some F54:=by kernel_rfl
theorem VZ :B54.fits 81=true:=by kernel_rfl
def B55 :Go.Vm.C:=(.seq (.af [ga 6 .mv [(.c (.s (.pointer none)))],ga 7 .mv [kc 0]]) (.seq (.af [gm 11 0,gm 12 1,gm 13 2,ga 14 (.call 92) [.t 11,.t 12,.t 13],gm 10 14,ga 15 (.ext 0) [.t 10],ga 16 (.ext 1) [.t 10],gm 8 15,gm 9 16]) (.seq (.seq (.af [gm 17 9,ga 18 (.un .not) [.t 17],gm 19 18,gw 19 false 20 .mv [.t 8],gw 19 false 21 (.call 16) [.t 20],gw 19 false 22 .mv [.t 2],gw 19 false 23 (.call 93) [.t 21,.t 22],gw 19 false 24 (.un .not) [.t 23],ga 25 .pick [.t 19,kb true,.t 24]]) (.cond (.t 25) (.seq (.af [ga 6 .mv [(.c (.s (.pointer none)))],ga 7 .mv [kc 12]]) .ret) .skip)) (.seq (.af [gm 26 8,gm 6 26,ga 7 .mv [kc 0]]) .ret))))
abbrev F55 :Go.Vm.Fn:=⟨27,B55,[(.t 6),(.t 7)],false⟩
theorem V0 :bH Tryz.prog ob Tryz.f55 false=some F55:=by kernel_rfl
theorem V1 :B55.fits 27=true:=by kernel_rfl
def Ee :Go.Vm.C:=(.seq (.af [ga 1 (.box (some 35)) [.t 0],ga 2 .mv [kb false]]) (.seq (.af [ga 3 (.fa 35 0) [.t 1],ga 4 (.ld none) [.t 3],ga 5 (.bin .num .leq) [.t 4,(.c (.s (.int .u64 1099511627776)))],gm 6 5,gw 6 true 7 (.fa 35 1) [.t 1],gw 6 true 8 (.ld none) [.t 7],gw 6 true 9 (.bin .num .leq) [.t 8,(.c (.s (.int .u64 1099511627776)))],ga 10 .pick [.t 6,.t 9,kb false],gm 11 10,gw 11 true 12 (.fa 35 2) [.t 1],gw 11 true 13 (.ld none) [.t 12],gw 11 true 14 (.fa 35 1) [.t 1],gw 11 true 15 (.ld none) [.t 14],gw 11 true 16 (.bin .num .leq) [.t 13,.t 15],ga 17 .pick [.t 11,.t 16,kb false],gm 18 17,gw 18 true 19 (.fa 35 1) [.t 1],gw 18 true 20 (.ld none) [.t 19],gw 18 true 21 (.fa 35 2) [.t 1],gw 18 true 22 (.ld none) [.t 21],gw 18 true 23 (.bin .num .sub) [.t 20,.t 22],gw 18 true 24 (.bin .num .leq) [.t 23,(.c (.s (.int .u64 8)))],ga 25 .pick [.t 18,.t 24,kb false],gm 26 25,gw 26 true 27 (.fa 35 4) [.t 1],gw 26 true 28 (.ld none) [.t 27],gw 26 true 29 (.bin .num .eql) [.t 28,kc 0],gw 26 true 30 .mv [.t 29],gw 30 false 31 (.fa 35 4) [.t 1],gw 30 false 32 (.ld none) [.t 31],gw 30 false 33 (.bin .num .eql) [.t 32,kc 1],gw 26 true 34 .pick [.t 30,kb true,.t 33],ga 35 .pick [.t 26,.t 34,kb false],gm 36 35,gw 36 true 37 (.fa 35 1) [.t 1],gw 36 true 38 (.ld none) [.t 37],gw 36 true 39 (.bin .num .gtr) [.t 38,(.c ku)],gw 36 true 40 .mv [.t 39],gw 40 false 41 (.fa 35 3) [.t 1],gw 40 false 42 (.ld (some 27)) [.t 41],gw 40 false 43 (.jD 27 [(.s (.int .u8 0)),(.s (.int .u8 0)),(.s (.int .u8 0)),(.s (.int .u8 0)),(.s (.int .u8 0)),(.s (.int .u8 0)),(.s (.int .u8 0)),(.s (.int .u8 0)),(.s (.int .u8 0)),(.s (.int .u8 0)),(.s (.int .u8 0)),(.s (.int .u8 0)),(.s (.int .u8 0)),(.s (.int .u8 0)),(.s (.int .u8 0)),(.s (.int .u8 0))] []) [],gw 40 false 44 (.ve 27 .u8 false) [.t 42,.t 43],gw 36 true 45 .pick [.t 40,kb true,.t 44],ga 46 .pick [.t 36,.t 45,kb false],gm 2 46]) .ret))
abbrev F56 :Go.Vm.Fn:=⟨47,Ee,[(.t 2)],true⟩
theorem V2 :bH Tryz.prog ob Tryz.f56 true=some F56:=by kernel_rfl
theorem V3 :Ee.fits 47=true:=by kernel_rfl
def B57 :Go.Vm.C:=(.seq (.af [ga 3 (.box (some 27)) [.t 0],ga 4 (.box (some 35)) [.t 1],ga 6 .mv [(.c (.al true none []))],ga 7 .mv [kc 0]]) (.seq (.seq (.af [gm 8 2,ga 9 .len [.t 8],ga 10 (.bin .num .gtr) [.t 9,kc 8184]]) (.cond (.t 10) (.seq (.af [ga 6 .mv [(.c (.al true none []))],ga 7 .mv [kc 3]]) .ret) .skip)) (.seq (.af [ga 11 (.ld (some 27)) [.t 3],ga 12 (.fa 35 1) [.t 4],ga 13 (.ld none) [.t 12],ga 14 (.gT none [(.s (.int .u8 0)),(.s (.int .u8 0)),(.s (.int .u8 0)),(.s (.int .u8 0)),(.s (.int .u8 0))] [0,1,2,3,4]) [(.c (.s (.int .u8 105))),(.c (.s (.int .u8 109))),(.c (.s (.int .u8 97))),(.c (.s (.int .u8 103))),(.c (.s (.int .u8 101)))],ga 15 .oy [.t 14],gm 16 2,ga 17 (.call 69) [.t 11,.t 13,.t 15,.t 16],gm 6 17,ga 7 .mv [kc 0]]) .ret)))
abbrev F57 :Go.Vm.Fn:=⟨18,B57,[(.t 6),(.t 7)],true⟩
theorem V4 :bH Tryz.prog ob Tryz.f57 true=some F57:=by kernel_rfl
theorem V5 :B57.fits 18=true:=by kernel_rfl
def B58 :Go.Vm.C:=(.seq (.af [ga 1 (.box (some 35)) [.t 0],ga 2 .mv [kc 0]]) (.seq (.af [ga 3 (.fa 35 4) [.t 1],ga 4 (.ld none) [.t 3],ga 5 (.bin .num .sub) [kc 1,.t 4],gm 2 5]) .ret))
abbrev F58 :Go.Vm.Fn:=⟨6,B58,[(.t 2)],true⟩
theorem V6 :bH Tryz.prog ob Tryz.f58 true=some F58:=by kernel_rfl
theorem V7 :B58.fits 6=true:=by kernel_rfl
def B59 :Go.Vm.C:=(.seq (.af [ga 2 (.box (some 35)) [.t 0],ga 3 (.box (some 27)) [.t 1],ga 4 (.eS (some 35) (.st 35 [ku,ku,ku,(bC 27),ki])) [],ga 5 .mv [kb false]]) (.seq (.seq (.af [ga 7 (.fa 35 1) [.t 2],ga 8 (.ld none) [.t 7],ga 9 (.fa 35 2) [.t 2],ga 10 (.ld none) [.t 9],ga 11 (.bin .num .leq) [.t 8,.t 10]]) (.cond (.t 11) (.seq (.af [ga 12 (.dN 35 [ku,ku,ku,(bC 27),ki] []) [],gn (.aY (some 35)) [.t 4,.t 12],ga 5 .mv [kb false]]) .ret) .skip)) (.seq (.af [ga 13 (.ld (some 35)) [.t 2],ga 6 (.eS (some 35) (.st 35 [ku,ku,ku,(bC 27),ki])) [],gn (.aY (some 35)) [.t 6,.t 13]]) (.seq (.bL [gl 0 0 (ga 14 (.fa 35 1) [.t 2]),gl 0 0 (ga 15 (.ld none) [.t 14]),gl 0 0 (ga 16 (.fa 35 4) [.t 2]),gl 0 0 (ga 17 (.ld none) [.t 16]),gl 0 1 (ga 18 (.bin .num .sub) [kc 1,.t 17]),gl 0 2 (ga 19 (.ld (some 27)) [.t 3]),gl 0 0 (ga 20 (.fa 35 2) [.t 2]),gl 0 1 (gn (.aY none) [.t 20,.t 15]),gl 1 1 (ga 21 (.fa 35 4) [.t 2]),gl 1 2 (gn (.aY none) [.t 21,.t 18]),gl 2 2 (ga 22 (.fa 35 3) [.t 2]),gl 2 3 (gn (.aY (some 27)) [.t 22,.t 19])]) (.seq (.af [ga 23 (.ld (some 35)) [.t 6],ga 24 (.ld (some 35)) [.t 2],ga 25 (.call 53) [.t 23,.t 24],ga 26 (.ext 0) [.t 25],ga 27 (.ext 1) [.t 25],gn (.aY (some 35)) [.t 4,.t 26],gm 5 27]) .ret)))))
abbrev F59 :Go.Vm.Fn:=⟨28,B59,[(.cell 4 (some 35)),(.t 5)],true⟩
theorem V8 :bH Tryz.prog ob Tryz.f59 true=some F59:=by kernel_rfl
theorem V9 :B59.fits 28=true:=by kernel_rfl
def B60 :Go.Vm.C:=(.seq (.af [ga 2 (.eS (some 27) (bC 27)) []]) (.seq (.af [gm 3 0,ga 4 (.call 71) [.t 3],gn (.aY (some 27)) [.t 2,.t 4]]) .ret))
abbrev F60 :Go.Vm.Fn:=⟨5,B60,[(.cell 2 (some 27))],true⟩
theorem Wa :bH Tryz.prog ob Tryz.f60 true=some F60:=by kernel_rfl
theorem Wb :B60.fits 5=true:=by kernel_rfl
def O8 :Go.Vm.C:=(.loop (.seq (.seq (.af [gm 10 7,gm 11 0,ga 12 .len [.t 11],ga 13 (.bin .num .lss) [.t 10,.t 12],gm 14 13,gw 14 true 15 .mv [.t 7],gw 14 true 16 (.bin .num .lss) [.t 15,kc 4],ga 17 .pick [.t 14,.t 16,kb false],gm 18 17,gw 18 true 19 .mv [.t 7],gw 18 true 20 .mv [.t 5],gw 18 true 21 .len [.t 20],gw 18 true 22 (.bin .num .lss) [.t 19,.t 21],ga 23 .pick [.t 18,.t 22,kb false]]) (.cond (.t 23) .skip (.exit 0))) (.seq (.block 1 (.af [gm 26 6,gm 27 0,gm 28 7,ga 29 (.de (some 43)) [.t 27,.t 28],ga 30 (.ld (some 43)) [.t 29],gm 31 5,gm 32 7,ga 33 (.de (some 54)) [.t 31,.t 32],ga 34 (.ld (some 54)) [.t 33],ga 35 (.call 62) [.t 30,.t 34],ga 36 (.gT (some 56) [(.st 56 [(z4 54),ku,(bC 27),kx,ki,ki,(bC 27),(.s (.bool false)),(.s (.bool false))])] [0]) [.t 35],ga 37 (.app (some 56) 96) [.t 26,.t 36],gm 6 37])) (.af [gm 24 7,ga 25 (.bin .num .add) [.t 24,kc 1],gm 7 25]))))
def O9 :Go.Vm.C:=(.seq (.af [gm 38 6,gm 4 38]) .ret)
def B61 :Go.Vm.C:=(.seq (.af [ga 4 .mv [(.c (.al true (some 56) []))]]) (.seq (.af [gm 8 1,ga 9 (.call 94) [.t 8],gm 5 9]) (.seq (.af [ga 6 .mv [(.c (.al true (some 56) []))]]) (.seq (.seq (.af [ga 7 .mv [kc 0]]) (.block 0 O8)) O9))))
abbrev F61 :Go.Vm.Fn:=⟨39,B61,[(.t 4)],true⟩
theorem Wc :bH Tryz.prog ob Tryz.f61 true=some F61:=by kernel_rfl
theorem Wd :B61.fits 39=true:=by kernel_rfl
def B62 :Go.Vm.C:=(.seq (.af [ga 2 (.box (some 43)) [.t 0],ga 3 (.box (some 54)) [.t 1],ga 4 (.eS (some 56) (.st 56 [(z4 54),ku,(bC 27),kx,ki,ki,(bC 27),(.s (.bool false)),(.s (.bool false))])) []]) (.seq (.af [ga 7 (.fa 43 6) [.t 2],ga 8 (.ld none) [.t 7],ga 9 (.bin .num .rem) [.t 8,(.c (.s (.int .u64 1099511627776)))],ga 10 (.bin .num .add) [(.c (.s (.int .u64 1))),.t 9],gm 5 10]) (.seq (.seq (.af [ga 11 (.fa 43 5) [.t 2],ga 12 (.ld none) [.t 11],ga 13 (.bin .num .rem) [.t 12,kc 4],ga 14 (.bin .num .eql) [.t 13,kc 3]]) (.cond (.t 14) (.seq (.af [ga 15 (.ld (some 54)) [.t 3],gm 16 5,ga 17 (.fa 43 5) [.t 2],ga 18 (.ld none) [.t 17],ga 19 (.bin .num .quo) [.t 18,kc 4],ga 20 (.bin .num .rem) [.t 19,kc 2],ga 21 (.bin .num .eql) [.t 20,kc 1],ga 22 (.dN 56 [(z4 54),ku,(bC 27),kx,ki,ki,(bC 27),(.s (.bool false)),(.s (.bool false))] [0,1,7,8]) [.t 15,.t 16,kb true,.t 21],gn (.aY (some 56)) [.t 4,.t 22]]) .ret) .skip)) (.seq (.af [ga 23 (.fa 43 3) [.t 2],ga 24 (.ld none) [.t 23],ga 25 (.call 7) [.t 24,kc 1,kc 32],gm 6 25]) (.seq (.bL [gl 0 5 (ga 26 (.ld (some 54)) [.t 3]),gl 0 5 (gm 27 5),gl 0 0 (ga 28 (.fa 43 1) [.t 2]),gl 0 0 (ga 29 (.ld none) [.t 28]),gl 0 1 (ga 30 (.call 95) [.t 29]),gl 0 1 (ga 31 (.fa 43 2) [.t 2]),gl 0 1 (ga 32 (.ld none) [.t 31]),gl 1 2 (ga 33 (.call 95) [.t 32]),gl 0 5 (gm 34 6),gl 0 2 (ga 35 (.fa 43 4) [.t 2]),gl 0 2 (ga 36 (.ld none) [.t 35]),gl 0 2 (gm 37 6),gl 0 2 (ga 38 (.bin .num .sub) [.t 37,kc 1]),gl 2 3 (ga 39 (.call 7) [.t 36,kc 0,.t 38]),gl 0 4 (ga 40 (.gT none [] []) []),gl 0 3 (ga 41 (.fa 43 7) [.t 2]),gl 0 3 (ga 42 (.ld none) [.t 41]),gl 3 4 (ga 43 (.call 96) [.t 42,kc 64]),gl 4 5 (ga 44 (.app none 1) [.t 40,.t 43]),gl 5 5 (ga 45 (.dN 56 [(z4 54),ku,(bC 27),kx,ki,ki,(bC 27),(.s (.bool false)),(.s (.bool false))] [0,1,2,6,4,5,3]) [.t 26,.t 27,.t 30,.t 33,.t 34,.t 39,.t 44]),gl 5 6 (gn (.aY (some 56)) [.t 4,.t 45])]) .ret)))))
abbrev F62 :Go.Vm.Fn:=⟨46,B62,[(.cell 4 (some 56))],true⟩
theorem We :bH Tryz.prog ob Tryz.f62 true=some F62:=by kernel_rfl
theorem Wf :B62.fits 46=true:=by kernel_rfl
def B63 :Go.Vm.C:=(.seq (.af [ga 2 (.eS (some 54) (z4 54)) []]) (.seq (.af [gm 3 0,ga 4 (.call 7) [.t 3,kc 0,kc 255],ga 5 (.gO .u8) [.t 4],ga 6 (.jD 54 [(.s (.int .u8 0)),(.s (.int .u8 0)),(.s (.int .u8 0)),(.s (.int .u8 0))] [0,1]) [.t 5,(.c (.s (.int .u8 7)))],gn (.aY (some 54)) [.t 2,.t 6]]) .ret))
abbrev F63 :Go.Vm.Fn:=⟨7,B63,[(.cell 2 (some 54))],true⟩
theorem Wg :bH Tryz.prog ob Tryz.f63 true=some F63:=by kernel_rfl
theorem Wh :B63.fits 7=true:=by kernel_rfl
def B64 :Go.Vm.C:=(.seq (.af [ga 1 (.box (some 59)) [.t 0],ga 2 .mv [kb false]]) (.seq (.af [ga 4 (.fa 59 3) [.t 1],ga 5 (.ld none) [.t 4],ga 6 (.bin .num .geq) [.t 5,(.c (.s (.int .u64 1)))],gm 7 6,gw 7 true 8 (.fa 59 3) [.t 1],gw 7 true 9 (.ld none) [.t 8],gw 7 true 10 (.bin .num .leq) [.t 9,(.c (.s (.int .u64 1099511627776)))],ga 11 .pick [.t 7,.t 10,kb false],gm 12 11,gw 12 true 13 (.fa 59 1) [.t 1],gw 12 true 14 (.ld none) [.t 13],gw 12 true 15 (.bin .num .geq) [.t 14,kc 0],ga 16 .pick [.t 12,.t 15,kb false],gm 17 16,gw 17 true 18 (.fa 59 1) [.t 1],gw 17 true 19 (.ld none) [.t 18],gw 17 true 20 (.bin .num .lss) [.t 19,kc 16],ga 21 .pick [.t 17,.t 20,kb false],gm 22 21,gw 22 true 23 (.fa 59 4) [.t 1],gw 22 true 24 (.ld (some 56)) [.t 23],gw 22 true 25 (.call 97) [.t 24],ga 26 .pick [.t 22,.t 25,kb false],gm 3 26]) (.seq (.seq (.af [ga 27 (.fa 59 0) [.t 1],ga 28 (.ld none) [.t 27]]) (.block 0 (.seq (.af [ga 30 (.bin .num .eql) [.t 28,kc 1],gm 29 30]) (.cond (.t 29) (.seq (.af [ga 31 (.fa 59 4) [.t 1],ga 32 (.ld (some 56)) [.t 31],ga 33 (.call 84) [.t 32],gm 34 33,gw 34 true 35 (.fa 59 1) [.t 1],gw 34 true 36 (.ld none) [.t 35],gw 34 true 37 (.bin .num .eql) [.t 36,kc 0],ga 38 .pick [.t 34,.t 37,kb false],gm 39 38,gw 39 true 40 (.fa 59 2) [.t 1],gw 39 true 41 (.ld none) [.t 40],gw 39 true 42 (.bin .num .eql) [.t 41,kc 0],ga 43 .pick [.t 39,.t 42,kb false],gm 44 43,gw 44 true 45 (.fa 59 3) [.t 1],gw 44 true 46 (.ld none) [.t 45],gw 44 true 47 (.bin .num .eql) [.t 46,(.c ku)],ga 48 .pick [.t 44,.t 47,kb false],gm 49 48,gw 49 true 50 (.fa 59 5) [.t 1],gw 49 true 51 (.ld none) [.t 50],gw 49 true 52 .len [.t 51],gw 49 true 53 (.bin .num .eql) [.t 52,kc 0],ga 54 .pick [.t 49,.t 53,kb false],gm 2 54]) .ret) (.seq (.af [ga 56 (.bin .num .eql) [.t 28,kc 2],gm 55 56]) (.cond (.t 55) (.seq (.af [gm 57 3,gm 58 57,gw 58 true 59 (.fa 59 2) [.t 1],gw 58 true 60 (.ld none) [.t 59],gw 58 true 61 (.bin .num .geq) [.t 60,kc 0],ga 62 .pick [.t 58,.t 61,kb false],gm 63 62,gw 63 true 64 (.fa 59 2) [.t 1],gw 63 true 65 (.ld none) [.t 64],gw 63 true 66 (.bin .num .lss) [.t 65,kc 8],ga 67 .pick [.t 63,.t 66,kb false],gm 68 67,gw 68 true 69 (.fa 59 5) [.t 1],gw 68 true 70 (.ld none) [.t 69],gw 68 true 71 .len [.t 70],gw 68 true 72 (.bin .num .eql) [.t 71,kc 0],ga 73 .pick [.t 68,.t 72,kb false],gm 2 73]) .ret) (.seq (.af [ga 75 (.bin .num .eql) [.t 28,kc 3],gm 74 75]) (.cond (.t 74) (.seq (.af [gm 76 3,gm 77 76,gw 77 true 78 (.fa 59 2) [.t 1],gw 77 true 79 (.ld none) [.t 78],gw 77 true 80 (.bin .num .eql) [.t 79,kc 0],ga 81 .pick [.t 77,.t 80,kb false],gm 82 81,gw 82 true 83 (.fa 59 5) [.t 1],gw 82 true 84 (.ld none) [.t 83],gw 82 true 85 (.call 98) [.t 84],ga 86 .pick [.t 82,.t 85,kb false],gm 2 86]) .ret) (.seq (.af [ga 88 (.bin .num .eql) [.t 28,kc 4],gm 87 88]) (.cond (.t 87) (.seq (.af [gm 89 3,gm 90 89,gw 90 true 91 (.fa 59 2) [.t 1],gw 90 true 92 (.ld none) [.t 91],gw 90 true 93 (.bin .num .eql) [.t 92,kc 0],ga 94 .pick [.t 90,.t 93,kb false],gm 95 94,gw 95 true 96 (.fa 59 5) [.t 1],gw 95 true 97 (.ld none) [.t 96],gw 95 true 98 .len [.t 97],gw 95 true 99 (.bin .num .eql) [.t 98,kc 0],ga 100 .pick [.t 95,.t 99,kb false],gm 2 100]) .ret) .skip)))))))))) (.seq (.af [ga 2 .mv [kb false]]) .ret))))
abbrev F64 :Go.Vm.Fn:=⟨101,B64,[(.t 2)],true⟩
theorem Wi :bH Tryz.prog ob Tryz.f64 true=some F64:=by kernel_rfl
theorem Wj :B64.fits 101=true:=by kernel_rfl
def B65 :Go.Vm.C:=(.seq (.af [ga 3 (.box (some 56)) [.t 1],ga 4 .mv [kc 0]]) (.seq (.bL [gl 0 1 (gm 8 0),gl 0 1 (ga 9 .aU [.t 8]),gl 0 1 (ga 10 (.fa 103 2) [.t 9]),gl 0 1 (ga 11 (.ld none) [.t 10]),gl 0 1 (ga 12 (.fa 56 0) [.t 3]),gl 0 1 (ga 13 (.ld (some 54)) [.t 12]),gl 0 1 (ga 14 (.mA 74) [.t 13]),gl 0 1 (ga 15 (.de (some 107)) [.t 11,.t 14]),gl 0 1 (ga 16 (.ld (some 107)) [.t 15]),gl 0 1 (ga 5 (.eS (some 107) (.st 107 [ki,ku,ki,(.s (.pointer none))])) []),gl 1 2 (gn (.aY (some 107)) [.t 5,.t 16])]) (.seq (.af [ga 18 (.fa 107 3) [.t 5],ga 19 (.ld none) [.t 18],ga 20 (.fa 56 0) [.t 3],ga 21 (.ld (some 54)) [.t 20],ga 22 (.call 99) [.t 19,.t 21],gm 17 22,ga 23 (.ext 0) [.t 17],ga 24 (.ext 1) [.t 17],ga 6 (.eS (some 56) (.st 56 [(z4 54),ku,(bC 27),kx,ki,ki,(bC 27),(.s (.bool false)),(.s (.bool false))])) [],gn (.aY (some 56)) [.t 6,.t 23],gm 7 24]) (.seq (.block 0 (.seq (.af [ga 26 (.fa 107 0) [.t 5],ga 27 (.ld none) [.t 26],ga 28 (.bin .num .eql) [.t 27,kc 0],gm 25 28]) (.cond (.t 25) (.seq (.af [ga 4 .mv [kc 26]]) .ret) (.seq (.af [ga 30 (.fa 107 0) [.t 5],ga 31 (.ld none) [.t 30],ga 32 (.bin .num .eql) [.t 31,kc 2],gm 29 32]) (.cond (.t 29) (.seq (.af [ga 4 .mv [kc 27]]) .ret) (.seq (.af [gm 34 7,ga 35 (.un .not) [.t 34],gm 36 35,gw 36 true 37 (.fa 107 3) [.t 5],gw 36 true 38 (.ld none) [.t 37],gw 36 true 39 (.call 100) [.t 38],gw 36 true 40 (.bin .num .geq) [.t 39,kc 4],ga 41 .pick [.t 36,.t 40,kb false],gm 33 41]) (.cond (.t 33) (.seq (.af [ga 4 .mv [kc 13]]) .ret) .skip))))))) (.seq (.af [ga 4 .mv [kc 0]]) .ret)))))
abbrev F65 :Go.Vm.Fn:=⟨42,B65,[(.t 4)],true⟩
theorem Wk :bH Tryz.prog ob Tryz.f65 true=some F65:=by kernel_rfl
theorem Wl :B65.fits 42=true:=by kernel_rfl
def B66 :Go.Vm.C:=(.seq (.af [ga 3 (.box (some 59)) [.t 1],ga 4 .mv [kc 0]]) (.seq (.bL [gl 0 1 (gm 6 0),gl 0 1 (ga 7 .aU [.t 6]),gl 0 1 (ga 8 (.fa 103 2) [.t 7]),gl 0 1 (ga 9 (.ld none) [.t 8]),gl 0 1 (ga 10 (.fa 59 1) [.t 3]),gl 0 1 (ga 11 (.ld none) [.t 10]),gl 0 1 (ga 12 (.de (some 107)) [.t 9,.t 11]),gl 0 1 (ga 13 (.ld (some 107)) [.t 12]),gl 0 1 (ga 5 (.eS (some 107) (.st 107 [ki,ku,ki,(.s (.pointer none))])) []),gl 1 2 (gn (.aY (some 107)) [.t 5,.t 13])]) (.seq (.block 0 (.seq (.af [ga 15 (.fa 59 2) [.t 3],ga 16 (.ld none) [.t 15],gm 17 0,ga 18 .aU [.t 17],ga 19 (.fa 103 1) [.t 18],ga 20 (.ld none) [.t 19],ga 21 (.bin .num .geq) [.t 16,.t 20],gm 22 21,gw 22 false 23 (.fa 59 2) [.t 3],gw 22 false 24 (.ld none) [.t 23],gw 22 false 25 .mv [.t 0],gw 22 false 26 .aU [.t 25],gw 22 false 27 (.fa 103 0) [.t 26],gw 22 false 28 (.ld none) [.t 27],gw 22 false 29 (.bin .num .eql) [.t 24,.t 28],ga 30 .pick [.t 22,kb true,.t 29],gm 14 30]) (.cond (.t 14) (.seq (.af [ga 4 .mv [kc 1]]) .ret) (.seq (.af [ga 32 (.fa 107 0) [.t 5],ga 33 (.ld none) [.t 32],ga 34 (.bin .num .eql) [.t 33,kc 0],gm 31 34]) (.cond (.t 31) (.seq (.af [ga 4 .mv [kc 26]]) .ret) (.seq (.af [ga 36 (.fa 107 0) [.t 5],ga 37 (.ld none) [.t 36],ga 38 (.bin .num .eql) [.t 37,kc 2],gm 35 38]) (.cond (.t 35) (.seq (.af [ga 4 .mv [kc 27]]) .ret) (.seq (.af [ga 40 (.fa 59 3) [.t 3],ga 41 (.ld none) [.t 40],ga 42 (.fa 107 1) [.t 5],ga 43 (.ld none) [.t 42],ga 44 (.bin .num .add) [.t 43,(.c (.s (.int .u64 1)))],ga 45 (.bin .num .neq) [.t 41,.t 44],gm 39 45]) (.cond (.t 39) (.seq (.af [ga 4 .mv [kc 1]]) .ret) .skip))))))))) (.seq (.af [ga 4 .mv [kc 0]]) .ret))))
abbrev F66 :Go.Vm.Fn:=⟨46,B66,[(.t 4)],true⟩
theorem Wm :bH Tryz.prog ob Tryz.f66 true=some F66:=by kernel_rfl
theorem Wn :B66.fits 46=true:=by kernel_rfl
def B67 :Go.Vm.C:=(.seq (.af [ga 3 (.box (some 59)) [.t 1],ga 4 .mv [kc 0]]) (.seq (.bL [gl 0 1 (gm 6 0),gl 0 1 (ga 7 .aU [.t 6]),gl 0 1 (ga 8 (.fa 103 2) [.t 7]),gl 0 1 (ga 9 (.ld none) [.t 8]),gl 0 1 (ga 10 (.fa 59 1) [.t 3]),gl 0 1 (ga 11 (.ld none) [.t 10]),gl 0 1 (ga 12 (.de (some 107)) [.t 9,.t 11]),gl 0 1 (ga 13 (.ld (some 107)) [.t 12]),gl 0 1 (ga 5 (.eS (some 107) (.st 107 [ki,ku,ki,(.s (.pointer none))])) []),gl 1 2 (gn (.aY (some 107)) [.t 5,.t 13])]) (.seq (.block 0 (.seq (.af [ga 15 (.fa 59 5) [.t 3],ga 16 (.ld none) [.t 15],ga 17 (.mkf 102) [.t 3],ga 18 (.call 101) [.t 16,.t 17],gm 14 18]) (.cond (.t 14) (.seq (.af [ga 4 .mv [kc 1]]) .ret) (.seq (.af [ga 20 (.fa 107 0) [.t 5],ga 21 (.ld none) [.t 20],ga 22 (.bin .num .eql) [.t 21,kc 1],gm 19 22]) (.cond (.t 19) (.seq (.af [ga 4 .mv [kc 26]]) .ret) (.seq (.af [ga 24 (.fa 59 3) [.t 3],ga 25 (.ld none) [.t 24],ga 26 (.fa 107 1) [.t 5],ga 27 (.ld none) [.t 26],ga 28 (.bin .num .leq) [.t 25,.t 27],gm 23 28]) (.cond (.t 23) (.seq (.af [ga 4 .mv [kc 31]]) .ret) .skip))))))) (.seq (.af [ga 4 .mv [kc 0]]) .ret))))
abbrev F67 :Go.Vm.Fn:=⟨29,B67,[(.t 4)],true⟩
theorem Wo :bH Tryz.prog ob Tryz.f67 true=some F67:=by kernel_rfl
theorem Wp :B67.fits 29=true:=by kernel_rfl
def HJ :Go.Vm.C:=(.loop (.seq (.af [ga 70 (.bin .num .lss) [.t 69,.t 68]]) (.seq (.cond (.t 70) .skip (.exit 1)) (.seq (.block 2 (.seq (.af [ga 71 (.de (some 56)) [.t 67,.t 69],ga 72 (.ld (some 56)) [.t 71],ga 6 (.eS (some 56) (.st 56 [(z4 54),ku,(bC 27),kx,ki,ki,(bC 27),(.s (.bool false)),(.s (.bool false))])) [],gn (.aY (some 56)) [.t 6,.t 72]]) (.af [gm 73 4,ga 74 (.ld (some 56)) [.t 6],ga 75 (.call 85) [.t 74],ga 76 (.app none 1) [.t 73,.t 75],gm 4 76]))) (.af [ga 77 (.bin .num .add) [.t 69,kc 1],gm 69 77])))))
def B68 :Go.Vm.C:=(.seq (.af [ga 1 (.box (some 59)) [.t 0],ga 2 .mv [(.c (.al true none []))],ga 3 .mv [kc 0]]) (.seq (.seq (.af [ga 7 (.ld (some 59)) [.t 1],ga 8 (.call 64) [.t 7],ga 9 (.un .not) [.t 8]]) (.cond (.t 9) (.seq (.af [ga 2 .mv [(.c (.al true none []))],ga 3 .mv [kc 1]]) .ret) .skip)) (.seq (.af [ga 10 (.fa 59 0) [.t 1],ga 11 (.ld none) [.t 10],ga 12 (.gO .u8) [.t 11],ga 13 (.gT none [(.s (.int .u8 0))] [0]) [.t 12],gm 4 13]) (.seq (.seq (.af [ga 14 (.fa 59 0) [.t 1],ga 15 (.ld none) [.t 14]]) (.block 0 (.seq (.af [ga 27 (.bin .num .eql) [.t 15,kc 1],gm 26 27]) (.cond (.t 26) (.af [gm 28 4,ga 29 (.fa 59 4) [.t 1],ga 30 (.ld (some 56)) [.t 29],ga 31 (.call 85) [.t 30],ga 32 (.app none 1) [.t 28,.t 31],gm 4 32]) (.seq (.af [ga 34 (.bin .num .eql) [.t 15,kc 2],gm 33 34]) (.cond (.t 33) (.bL [gl 0 1 (gm 35 4),gl 0 0 (ga 36 (.fa 59 1) [.t 1]),gl 0 0 (ga 37 (.ld none) [.t 36]),gl 0 0 (ga 38 (.gO .u8) [.t 37]),gl 0 0 (ga 39 (.fa 59 2) [.t 1]),gl 0 0 (ga 40 (.ld none) [.t 39]),gl 0 0 (ga 41 (.gO .u8) [.t 40]),gl 0 1 (ga 42 (.gT none [(.s (.int .u8 0)),(.s (.int .u8 0))] [0,1]) [.t 38,.t 41]),gl 1 2 (ga 43 (.app none 1) [.t 35,.t 42]),gl 0 2 (ga 44 (.fa 59 3) [.t 1]),gl 0 2 (ga 45 (.ld none) [.t 44]),gl 2 3 (ga 46 (.call 44) [.t 45]),gl 3 4 (ga 47 (.app none 1) [.t 43,.t 46]),gl 4 4 (gm 4 47)]) (.seq (.af [ga 49 (.bin .num .eql) [.t 15,kc 3],gm 48 49]) (.cond (.t 48) (.seq (.bL [gl 0 0 (gm 50 4),gl 0 0 (ga 51 (.fa 59 1) [.t 1]),gl 0 0 (ga 52 (.ld none) [.t 51]),gl 0 0 (ga 53 (.gO .u8) [.t 52]),gl 0 0 (ga 54 (.CP none [(.s (.int .u8 0))] [0]) [.t 53]),gl 0 1 (ga 55 (.app none 1) [.t 50,.t 54]),gl 0 1 (ga 56 (.fa 59 3) [.t 1]),gl 0 1 (ga 57 (.ld none) [.t 56]),gl 1 2 (ga 58 (.call 44) [.t 57]),gl 2 3 (ga 59 (.app none 1) [.t 55,.t 58]),gl 0 3 (ga 60 (.fa 59 5) [.t 1]),gl 0 3 (ga 61 (.ld none) [.t 60]),gl 0 3 (ga 62 .len [.t 61]),gl 0 3 (ga 63 (.gO .u8) [.t 62]),gl 0 3 (ga 64 (.CP none [(.s (.int .u8 0))] [0]) [.t 63]),gl 3 4 (ga 65 (.app none 1) [.t 59,.t 64]),gl 4 4 (gm 4 65)]) (.seq (.af [ga 66 (.fa 59 5) [.t 1],ga 67 (.ld none) [.t 66],ga 68 .len [.t 67],ga 69 .mv [kc 0]]) (.block 1 HJ))) (.bL [gl 0 1 (gm 16 4),gl 0 0 (ga 17 (.fa 59 1) [.t 1]),gl 0 0 (ga 18 (.ld none) [.t 17]),gl 0 0 (ga 19 (.gO .u8) [.t 18]),gl 0 1 (ga 20 (.gT none [(.s (.int .u8 0))] [0]) [.t 19]),gl 1 2 (ga 21 (.app none 1) [.t 16,.t 20]),gl 0 2 (ga 22 (.fa 59 3) [.t 1]),gl 0 2 (ga 23 (.ld none) [.t 22]),gl 2 3 (ga 24 (.call 44) [.t 23]),gl 3 4 (ga 25 (.app none 1) [.t 21,.t 24]),gl 4 4 (gm 4 25)]))))))))) (.seq (.af [gm 78 4,gm 2 78,ga 3 .mv [kc 0]]) .ret)))))
abbrev F68 :Go.Vm.Fn:=⟨79,B68,[(.t 2),(.t 3)],true⟩
theorem Wq :bH Tryz.prog ob Tryz.f68 true=some F68:=by kernel_rfl
theorem Wr :B68.fits 79=true:=by kernel_rfl
def B69 :Go.Vm.C:=(.seq (.af [ga 4 (.box (some 27)) [.t 0],ga 8 .mv [(.c (.al true none []))]]) (.seq (.seq (.af [gm 9 3,ga 10 .len [.t 9],ga 11 (.bin .num .gtr) [.t 10,kc 8184],gm 12 11,gw 12 false 13 .mv [.t 2],gw 12 false 14 .len [.t 13],gw 12 false 15 (.bin .num .gtr) [.t 14,kc 8192],ga 16 .pick [.t 12,kb true,.t 15]]) (.cond (.t 16) (.seq (.af [ga 8 .mv [(.c (.al true none []))]]) .ret) .skip)) (.seq (.bL [gl 0 0 (ga 17 (.ld (some 27)) [.t 4]),gl 0 0 (gm 18 1),gl 0 0 (gm 19 3),gl 0 1 (ga 20 (.call 103) [.t 17,.t 18,.t 19]),gl 0 1 (ga 21 (.ld (some 27)) [.t 4]),gl 0 1 (gm 22 1),gl 0 1 (gm 23 2),gl 0 1 (gm 24 3),gl 1 2 (ga 25 (.call 104) [.t 21,.t 22,.t 23,.t 24]),gl 2 3 (ga 26 (.app none 1) [.t 20,.t 25]),gl 3 3 (gm 8 26)]) .ret)))
abbrev F69 :Go.Vm.Fn:=⟨27,B69,[(.t 8)],true⟩
theorem Ws :bH Tryz.prog ob Tryz.f69 true=some F69:=by kernel_rfl
theorem Wt :B69.fits 27=true:=by kernel_rfl
def B70 :Go.Vm.C:=(.seq (.af [ga 2 (.box (some 27)) [.t 0],ga 3 (.box (some 27)) [.t 1],ga 4 (.eS (some 27) (bC 27)) []]) (.seq (.af [ga 5 (.ld (some 27)) [.t 2],ga 6 (.nU 27 none false false) [.t 3],ga 7 (.call 51) [.t 5,.t 6],gn (.aY (some 27)) [.t 4,.t 7]]) .ret))
abbrev F70 :Go.Vm.Fn:=⟨8,B70,[(.cell 4 (some 27))],true⟩
theorem Wu :bH Tryz.prog ob Tryz.f70 true=some F70:=by kernel_rfl
theorem Wv :B70.fits 8=true:=by kernel_rfl
def HK :Go.Vm.C:=(.loop (.seq (.seq (.af [gm 13 4,ga 14 .len [.t 13],ga 15 (.bin .num .rem) [.t 14,kc 8],ga 16 (.bin .num .neq) [.t 15,kc 0]]) (.cond (.t 16) .skip (.exit 0))) (.block 1 (.af [gm 17 4,ga 18 (.gT none [(.s (.int .u8 0))] [0]) [(.c (.s (.int .u8 0)))],ga 19 (.app none 1) [.t 17,.t 18],gm 4 19]))))
def HL :Go.Vm.C:=(.loop (.seq (.af [ga 21 (.bin .num .lss) [.t 20,kc 8]]) (.seq (.cond (.t 21) .skip (.exit 2)) (.seq (.block 3 (.seq (.af [gm 22 20,gm 5 22]) (.af [gm 23 4,gm 24 0,ga 25 .len [.t 24],ga 26 (.gO .u64) [.t 25],gm 27 5,ga 28 (.bin .num .mul) [kc 8,.t 27],ga 29 (.bin .num .shr) [.t 26,.t 28],ga 30 (.gO .u8) [.t 29],ga 31 (.gT none [(.s (.int .u8 0))] [0]) [.t 30],ga 32 (.app none 1) [.t 23,.t 31],gm 4 32]))) (.af [ga 33 (.bin .num .add) [.t 20,kc 1],gm 20 33])))))
def HM :Go.Vm.C:=(.loop (.seq (.af [ga 53 (.bin .num .lss) [.t 52,kc 3]]) (.seq (.cond (.t 53) .skip (.exit 6)) (.seq (.block 7 (.af [ga 54 (.call 106) [.t 3]])) (.af [ga 55 (.bin .num .add) [.t 52,kc 1],gm 52 55])))))
def HN :Go.Vm.C:=(.loop (.seq (.seq (.af [gm 34 4,ga 35 .len [.t 34],ga 36 (.bin .num .gtr) [.t 35,kc 0]]) (.cond (.t 36) .skip (.exit 4))) (.seq (.block 5 (.seq (.bL [gl 0 1 (ga 39 (.fg 163) [.t 3,kc 0]),gl 0 1 (ga 40 (.ld none) [.t 39]),gl 0 0 (gm 41 4),gl 0 1 (ga 42 (.call 105) [.t 41]),gl 1 1 (ga 43 (.bin .num .xor) [.t 40,.t 42]),gl 1 1 (ga 44 (.fg 163) [.t 3,kc 0]),gl 1 2 (gn (.aY none) [.t 44,.t 43])]) (.seq (.bL [gl 0 1 (ga 45 (.fg 163) [.t 3,kc 3]),gl 0 1 (ga 46 (.ld none) [.t 45]),gl 0 0 (gm 47 4),gl 0 0 (ga 48 (.j2 none true false false) [.t 47,kc 4]),gl 0 1 (ga 49 (.call 105) [.t 48]),gl 1 1 (ga 50 (.bin .num .xor) [.t 46,.t 49]),gl 1 1 (ga 51 (.fg 163) [.t 3,kc 3]),gl 1 2 (gn (.aY none) [.t 51,.t 50])]) (.seq (.af [ga 52 .mv [kc 0]]) (.block 6 HM))))) (.af [gm 37 4,ga 38 (.j2 none true false false) [.t 37,kc 8],gm 4 38]))))
def HO :Go.Vm.C:=(.loop (.seq (.af [ga 57 (.bin .num .lss) [.t 56,kc 8]]) (.seq (.cond (.t 57) .skip (.exit 8)) (.seq (.block 9 (.af [ga 58 (.call 106) [.t 3]])) (.af [ga 59 (.bin .num .add) [.t 56,kc 1],gm 56 59])))))
def AI :Go.Vm.C:=(.loop (.seq (.af [ga 61 (.bin .num .lss) [.t 60,kc 16]]) (.seq (.cond (.t 61) .skip (.exit 10)) (.seq (.block 11 (.seq (.af [gm 62 60,gm 7 62]) (.af [gm 63 7,gm 64 7,ga 65 (.bin .num .quo) [.t 64,kc 4],ga 66 (.fg 163) [.t 3,.t 65],ga 67 (.ld none) [.t 66],gm 68 7,ga 69 (.bin .num .rem) [.t 68,kc 4],ga 70 (.bin .num .mul) [kc 8,.t 69],ga 71 (.bin .num .shr) [.t 67,.t 70],ga 72 (.gO .u8) [.t 71],ga 73 (.fg 27) [.t 6,.t 63],gn (.aY none) [.t 73,.t 72]]))) (.af [ga 74 (.bin .num .add) [.t 60,kc 1],gm 60 74])))))
def AJ :Go.Vm.C:=(.seq (.af [ga 75 (.ld (some 27)) [.t 6],gn (.aY (some 27)) [.t 2,.t 75]]) .ret)
def HP :Go.Vm.C:=(.seq (.af [ga 6 (.eS (some 27) (bC 27)) []]) (.seq (.seq (.af [ga 60 .mv [kc 0]]) (.block 10 AI)) AJ))
def HQ :Go.Vm.C:=(.seq (.seq (.af [ga 56 .mv [kc 0]]) (.block 8 HO)) HP)
def HR :Go.Vm.C:=(.seq (.block 4 HN) HQ)
def HS :Go.Vm.C:=(.seq (.seq (.af [ga 20 .mv [kc 0]]) (.block 2 HL)) HR)
def B71 :Go.Vm.C:=(.seq (.af [ga 2 (.eS (some 27) (bC 27)) []]) (.seq (.af [ga 8 (.jD 163 [(.s (.int .u32 0)),(.s (.int .u32 0)),(.s (.int .u32 0)),(.s (.int .u32 0))] [0,1,2,3]) [(.c (.s (.int .u32 1668047222))),(.c (.s (.int .u32 1768383858))),(.c (.s (.int .u32 1801807216))),(.c (.s (.int .u32 1935763045)))],ga 3 (.eS (some 163) (.arr 163 [(.s (.int .u32 0)),(.s (.int .u32 0)),(.s (.int .u32 0)),(.s (.int .u32 0))])) [],gn (.aY (some 163)) [.t 3,.t 8]]) (.seq (.af [gm 9 0,ga 10 (.call 87) [.t 9],ga 11 (.gT none [(.s (.int .u8 0))] [0]) [(.c (.s (.int .u8 128)))],ga 12 (.app none 1) [.t 10,.t 11],gm 4 12]) (.seq (.block 0 HK) HS))))
abbrev F71 :Go.Vm.Fn:=⟨76,B71,[(.cell 2 (some 27))],true⟩
theorem Ww :bH Tryz.prog ob Tryz.f71 true=some F71:=by kernel_rfl
theorem Wx :B71.fits 76=true:=by kernel_rfl
def B72 :Go.Vm.C:=(.seq (.af [ga 6 .mv [kb false]]) (.seq (.seq (.af [gm 7 1,ga 8 (.call 107) [.t 7],ga 9 (.un .not) [.t 8],gm 10 9,gw 10 false 11 .mv [.t 2],gw 10 false 12 .len [.t 11],gw 10 false 13 (.bin .num .gtr) [.t 12,kc 8192],ga 14 .pick [.t 10,kb true,.t 13]]) (.cond (.t 14) (.seq (.af [ga 6 .mv [kb false]]) .ret) .skip)) (.seq (.bL [gl 0 1 (gm 15 0),gl 0 1 (gm 16 1),gl 0 0 (gm 17 2),gl 0 1 (ga 18 (.call 88) [.t 17]),gl 0 1 (ga 19 .aU [.t 15]),gl 0 1 (ga 20 (.fa 113 0) [.t 19]),gl 1 1 (ga 21 (.fg 112) [.t 20,.t 16]),gl 1 2 (gn (.aY (some 110)) [.t 21,.t 18])]) (.seq (.af [gm 22 0,ga 23 .aU [.t 22],ga 24 (.fa 113 2) [.t 23],ga 25 (.ld none) [.t 24],ga 26 (.bin .num .add) [.t 25,kc 1],ga 27 .aU [.t 22],ga 28 (.fa 113 2) [.t 27],gn (.aY none) [.t 28,.t 26]]) (.seq (.af [gm 29 0,gm 30 0,gm 31 1,gm 32 2,ga 33 (.call 87) [.t 32],ga 34 .aU [.t 29],ga 35 (.fa 113 3) [.t 34],gn (.aY none) [.t 35,.t 31],ga 36 .aU [.t 30],ga 37 (.fa 113 4) [.t 36],gn (.aY none) [.t 37,.t 33]]) (.seq (.af [ga 6 .mv [kb true]]) .ret))))))
abbrev F72 :Go.Vm.Fn:=⟨38,B72,[(.t 6)],false⟩
theorem Wy :bH Tryz.prog ob Tryz.f72 false=some F72:=by kernel_rfl
theorem Wz :B72.fits 38=true:=by kernel_rfl
def B73 :Go.Vm.C:=(.af [gm 2 0,gm 3 0,gm 4 0,ga 5 .aU [.t 4],ga 6 (.fa 113 0) [.t 5],ga 7 (.ld (some 112)) [.t 6],ga 8 .aU [.t 2],ga 9 (.fa 113 1) [.t 8],gn (.aY (some 112)) [.t 9,.t 7],ga 10 .aU [.t 3],ga 11 (.fa 113 2) [.t 10],gn (.aY none) [.t 11,kc 0]])
abbrev F73 :Go.Vm.Fn:=⟨12,B73,[],false⟩
theorem WA :bH Tryz.prog ob Tryz.f73 false=some F73:=by kernel_rfl
theorem WB :B73.fits 12=true:=by kernel_rfl
def B74 :Go.Vm.C:=(.seq (.af [ga 1 (.box (some 54)) [.t 0],ga 2 .mv [kc 0]]) (.seq (.af [ga 3 (.nU 54 none false false) [.t 1],ga 4 (.call 71) [.t 3],ga 5 (.idx 27) [.t 4,kc 0],ga 6 (.bin .num .rem) [.t 5,(.c (.s (.int .u8 16)))],ga 7 (.gO .i64) [.t 6],gm 2 7]) .ret))
abbrev F74 :Go.Vm.Fn:=⟨8,B74,[(.t 2)],true⟩
theorem WC :bH Tryz.prog ob Tryz.f74 true=some F74:=by kernel_rfl
theorem WD :B74.fits 8=true:=by kernel_rfl
def Hi :Go.Vm.C:=(.seq (.af [ga 3 (.box (some 56)) [.t 1],ga 4 .mv [kc 0]]) (.seq (.af [gm 8 0,ga 9 (.fa 56 0) [.t 3],ga 10 (.ld (some 54)) [.t 9],ga 11 (.call 108) [.t 8,.t 10],gm 7 11,ga 12 (.ext 0) [.t 7],ga 13 (.ext 1) [.t 7],gm 5 12,gm 6 13]) (.seq (.block 0 (.seq (.af [ga 27 (.ld (some 56)) [.t 3],ga 28 (.call 84) [.t 27],ga 29 (.un .not) [.t 28],gm 26 29]) (.cond (.t 26) (.seq (.af [ga 4 .mv [kc 1]]) .ret) (.seq (.af [gm 31 6,gm 30 31]) (.cond (.t 30) (.bL [gl 0 1 (gm 32 0),gl 0 1 (ga 33 .aU [.t 32]),gl 0 1 (ga 34 (.fa 141 0) [.t 33]),gl 0 1 (ga 35 (.ld none) [.t 34]),gl 0 1 (gm 36 5),gl 0 0 (ga 37 (.ld (some 56)) [.t 3]),gl 0 1 (ga 38 (.call 109) [.t 37]),gl 1 1 (ga 39 (.de (some 56)) [.t 35,.t 36]),gl 1 2 (gn (.aY (some 56)) [.t 39,.t 38])]) (.seq (.af [gm 41 0,ga 42 .aU [.t 41],ga 43 (.fa 141 0) [.t 42],ga 44 (.ld none) [.t 43],ga 45 .len [.t 44],ga 46 (.bin .num .geq) [.t 45,kc 4],gm 40 46]) (.cond (.t 40) (.seq (.af [ga 4 .mv [kc 13]]) .ret) (.bL [gl 0 3 (gm 14 0),gl 0 2 (gm 15 0),gl 0 2 (ga 16 .aU [.t 15]),gl 0 2 (ga 17 (.fa 141 0) [.t 16]),gl 0 2 (ga 18 (.ld none) [.t 17]),gl 0 2 (gm 19 5),gl 0 0 (ga 20 (.ld (some 56)) [.t 3]),gl 0 1 (ga 21 (.call 109) [.t 20]),gl 1 2 (ga 22 (.gT (some 56) [(.st 56 [(z4 54),ku,(bC 27),kx,ki,ki,(bC 27),(.s (.bool false)),(.s (.bool false))])] [0]) [.t 21]),gl 2 3 (ga 23 (.call 110) [.t 18,.t 19,.t 22]),gl 3 3 (ga 24 .aU [.t 14]),gl 3 3 (ga 25 (.fa 141 0) [.t 24]),gl 3 4 (gn (.aY none) [.t 25,.t 23])])))))))) (.seq (.af [ga 4 .mv [kc 0]]) .ret))))
abbrev F75 :Go.Vm.Fn:=⟨47,Hi,[(.t 4)],false⟩
theorem WE :bH Tryz.prog ob Tryz.f75 false=some F75:=by kernel_rfl
theorem yx :Hi.fits 47=true:=by kernel_rfl
def yy :Go.Vm.C:=(.loop (.seq (.af [ga 15 (.bin .num .lss) [.t 14,.t 13]]) (.seq (.cond (.t 15) .skip (.exit 0)) (.seq (.block 1 (.seq (.af [gm 16 14,ga 17 (.de (some 56)) [.t 12,.t 14],ga 18 (.ld (some 56)) [.t 17],ga 7 (.eS (some 56) (.st 56 [(z4 54),ku,(bC 27),kx,ki,ki,(bC 27),(.s (.bool false)),(.s (.bool false))])) [],gm 6 16,gn (.aY (some 56)) [.t 7,.t 18]]) (.seq (.seq (.af [ga 19 (.ld (some 56)) [.t 7],ga 20 (.call 84) [.t 19],ga 21 (.un .not) [.t 20],gm 22 21,gw 22 false 23 .mv [.t 6],gw 22 false 24 (.bin .num .gtr) [.t 23,kc 0],gw 22 false 25 .mv [.t 24],gw 25 true 26 .mv [.t 1],gw 25 true 27 .mv [.t 6],gw 25 true 28 (.bin .num .sub) [.t 27,kc 1],gw 25 true 29 (.de (some 56)) [.t 26,.t 28],gw 25 true 30 (.fa 56 0) [.t 29],gw 25 true 31 (.nU 54 none false false) [.t 30],gw 25 true 32 (.fa 56 0) [.t 7],gw 25 true 33 (.nU 54 none false false) [.t 32],gw 25 true 34 (.call 111) [.t 31,.t 33],gw 25 true 35 (.bin .num .geq) [.t 34,kc 0],gw 22 false 36 .pick [.t 25,.t 35,kb false],ga 37 .pick [.t 22,kb true,.t 36]]) (.cond (.t 37) (.seq (.af [ga 4 .mv [kc 1]]) .ret) .skip)) (.bL [gl 0 3 (gm 38 5),gl 0 2 (gm 39 5),gl 0 2 (ga 40 .aU [.t 39]),gl 0 2 (ga 41 (.fa 141 0) [.t 40]),gl 0 2 (ga 42 (.ld none) [.t 41]),gl 0 0 (ga 43 (.ld (some 56)) [.t 7]),gl 0 1 (ga 44 (.call 109) [.t 43]),gl 1 2 (ga 45 (.gT (some 56) [(.st 56 [(z4 54),ku,(bC 27),kx,ki,ki,(bC 27),(.s (.bool false)),(.s (.bool false))])] [0]) [.t 44]),gl 2 3 (ga 46 (.app (some 56) 96) [.t 42,.t 45]),gl 3 3 (ga 47 .aU [.t 38]),gl 3 3 (ga 48 (.fa 141 0) [.t 47]),gl 3 4 (gn (.aY none) [.t 48,.t 46])])))) (.af [ga 49 (.bin .num .add) [.t 14,kc 1],gm 14 49])))))
def yz :Go.Vm.C:=(.seq (.af [gm 50 0,gm 51 5,ga 52 .aU [.t 51],ga 53 (.fa 141 0) [.t 52],ga 54 (.ld none) [.t 53],ga 55 .aU [.t 50],ga 56 (.fa 141 0) [.t 55],gn (.aY none) [.t 56,.t 54]]) (.seq (.af [ga 4 .mv [kc 0]]) .ret))
def B76 :Go.Vm.C:=(.seq (.af [ga 4 .mv [kc 0]]) (.seq (.seq (.af [gm 8 1,ga 9 .len [.t 8],ga 10 (.bin .num .gtr) [.t 9,kc 4]]) (.cond (.t 10) (.seq (.af [ga 4 .mv [kc 1]]) .ret) .skip)) (.seq (.af [ga 11 (.call 49) [],gm 5 11]) (.seq (.seq (.af [gm 12 1,ga 13 .len [.t 12],ga 14 .mv [kc 0]]) (.block 0 yy)) yz))))
abbrev F76 :Go.Vm.Fn:=⟨57,B76,[(.t 4)],false⟩
theorem WG :bH Tryz.prog ob Tryz.f76 false=some F76:=by kernel_rfl
theorem WH :B76.fits 57=true:=by kernel_rfl
def B77 :Go.Vm.C:=(.seq (.af [ga 1 (.box (some 59)) [.t 0],ga 2 .mv [kb false]]) (.seq (.af [ga 6 (.fa 59 1) [.t 1],ga 7 (.ld none) [.t 6],ga 8 (.bin .num .geq) [.t 7,kc 0],gm 9 8,gw 9 true 10 (.fa 59 1) [.t 1],gw 9 true 11 (.ld none) [.t 10],gw 9 true 12 (.bin .num .lss) [.t 11,kc 16],ga 13 .pick [.t 9,.t 12,kb false],gm 3 13]) (.seq (.af [ga 14 (.fa 59 3) [.t 1],ga 15 (.ld none) [.t 14],ga 16 (.bin .num .geq) [.t 15,(.c (.s (.int .u64 1)))],gm 17 16,gw 17 true 18 (.fa 59 3) [.t 1],gw 17 true 19 (.ld none) [.t 18],gw 17 true 20 (.call 112) [.t 19],ga 21 .pick [.t 17,.t 20,kb false],gm 4 21]) (.seq (.af [ga 22 (.fa 59 2) [.t 1],ga 23 (.ld none) [.t 22],ga 24 (.bin .num .geq) [.t 23,kc 0],gm 25 24,gw 25 true 26 (.fa 59 2) [.t 1],gw 25 true 27 (.ld none) [.t 26],gw 25 true 28 (.bin .num .lss) [.t 27,kc 8],ga 29 .pick [.t 25,.t 28,kb false],gm 5 29]) (.seq (.seq (.af [ga 30 (.fa 59 0) [.t 1],ga 31 (.ld none) [.t 30]]) (.block 0 (.seq (.af [ga 33 (.bin .num .eql) [.t 31,kc 1],gm 32 33]) (.cond (.t 32) (.seq (.af [ga 34 (.fa 59 4) [.t 1],ga 35 (.ld (some 56)) [.t 34],ga 36 (.call 113) [.t 35],gm 37 36,gw 37 true 38 (.fa 59 1) [.t 1],gw 37 true 39 (.ld none) [.t 38],gw 37 true 40 (.bin .num .eql) [.t 39,kc 0],ga 41 .pick [.t 37,.t 40,kb false],gm 42 41,gw 42 true 43 (.fa 59 2) [.t 1],gw 42 true 44 (.ld none) [.t 43],gw 42 true 45 (.bin .num .eql) [.t 44,kc 0],ga 46 .pick [.t 42,.t 45,kb false],gm 47 46,gw 47 true 48 (.fa 59 3) [.t 1],gw 47 true 49 (.ld none) [.t 48],gw 47 true 50 (.bin .num .eql) [.t 49,(.c ku)],ga 51 .pick [.t 47,.t 50,kb false],gm 52 51,gw 52 true 53 (.fa 59 5) [.t 1],gw 52 true 54 (.ld none) [.t 53],gw 52 true 55 .len [.t 54],gw 52 true 56 (.bin .num .eql) [.t 55,kc 0],ga 57 .pick [.t 52,.t 56,kb false],gm 2 57]) .ret) (.seq (.af [ga 59 (.bin .num .eql) [.t 31,kc 2],gm 58 59]) (.cond (.t 58) (.seq (.af [gm 60 3,gm 61 60,gw 61 true 62 .mv [.t 4],ga 63 .pick [.t 61,.t 62,kb false],gm 64 63,gw 64 true 65 .mv [.t 5],ga 66 .pick [.t 64,.t 65,kb false],gm 67 66,gw 67 true 68 (.fa 59 4) [.t 1],gw 67 true 69 (.ld (some 56)) [.t 68],gw 67 true 70 (.call 114) [.t 69],ga 71 .pick [.t 67,.t 70,kb false],gm 72 71,gw 72 true 73 (.fa 59 5) [.t 1],gw 72 true 74 (.ld none) [.t 73],gw 72 true 75 .len [.t 74],gw 72 true 76 (.bin .num .eql) [.t 75,kc 0],ga 77 .pick [.t 72,.t 76,kb false],gm 2 77]) .ret) (.seq (.af [ga 79 (.bin .num .eql) [.t 31,kc 3],gm 78 79]) (.cond (.t 78) (.seq (.af [gm 80 3,gm 81 80,gw 81 true 82 .mv [.t 4],ga 83 .pick [.t 81,.t 82,kb false],gm 84 83,gw 84 true 85 (.fa 59 2) [.t 1],gw 84 true 86 (.ld none) [.t 85],gw 84 true 87 (.bin .num .eql) [.t 86,kc 0],ga 88 .pick [.t 84,.t 87,kb false],gm 89 88,gw 89 true 90 (.fa 59 4) [.t 1],gw 89 true 91 (.ld (some 56)) [.t 90],gw 89 true 92 (.call 114) [.t 91],ga 93 .pick [.t 89,.t 92,kb false],gm 94 93,gw 94 true 95 (.fa 59 5) [.t 1],gw 94 true 96 (.ld none) [.t 95],gw 94 true 97 (.call 115) [.t 96],ga 98 .pick [.t 94,.t 97,kb false],gm 2 98]) .ret) (.seq (.af [ga 100 (.bin .num .eql) [.t 31,kc 4],gm 99 100]) (.cond (.t 99) (.seq (.af [gm 101 3,gm 102 101,gw 102 true 103 .mv [.t 4],ga 104 .pick [.t 102,.t 103,kb false],gm 105 104,gw 105 true 106 (.fa 59 2) [.t 1],gw 105 true 107 (.ld none) [.t 106],gw 105 true 108 (.bin .num .eql) [.t 107,kc 0],ga 109 .pick [.t 105,.t 108,kb false],gm 110 109,gw 110 true 111 (.fa 59 4) [.t 1],gw 110 true 112 (.ld (some 56)) [.t 111],gw 110 true 113 (.call 114) [.t 112],ga 114 .pick [.t 110,.t 113,kb false],gm 115 114,gw 115 true 116 (.fa 59 5) [.t 1],gw 115 true 117 (.ld none) [.t 116],gw 115 true 118 .len [.t 117],gw 115 true 119 (.bin .num .eql) [.t 118,kc 0],ga 120 .pick [.t 115,.t 119,kb false],gm 2 120]) .ret) .skip)))))))))) (.seq (.af [ga 2 .mv [kb false]]) .ret))))))
abbrev F77 :Go.Vm.Fn:=⟨121,B77,[(.t 2)],true⟩
theorem WI :bH Tryz.prog ob Tryz.f77 true=some F77:=by kernel_rfl
theorem WJ :B77.fits 121=true:=by kernel_rfl
def Pb :Go.Vm.C:=(.loop (.seq (.seq (.af [gm 10 7,gm 11 0,gm 12 6,ga 13 .aU [.t 11],ga 14 (.fa 78 2) [.t 13],ga 15 (.fg 77) [.t 14,.t 12],ga 16 (.fa 75 3) [.t 15],ga 17 (.ld none) [.t 16],ga 18 .len [.t 17],ga 19 (.bin .num .lss) [.t 10,.t 18]]) (.cond (.t 19) .skip (.exit 0))) (.seq (.block 1 (.seq (.af [gm 22 0,gm 23 6,ga 24 .aU [.t 22],ga 25 (.fa 78 2) [.t 24],ga 26 (.fg 77) [.t 25,.t 23],ga 27 (.fa 75 3) [.t 26],ga 28 (.ld none) [.t 27],gm 29 7,ga 30 (.de (some 56)) [.t 28,.t 29],ga 31 (.fa 56 0) [.t 30],ga 32 (.ld (some 54)) [.t 31],ga 33 (.ld (some 54)) [.t 3],ga 34 (.ve 54 .u8 false) [.t 32,.t 33]]) (.cond (.t 34) (.seq (.af [gm 35 6,gm 36 7,gm 4 35,gm 5 36]) .ret) .skip))) (.af [gm 20 7,ga 21 (.bin .num .add) [.t 20,kc 1],gm 7 21]))))
def Pc :Go.Vm.C:=(.seq (.af [gm 37 6,gm 4 37,ga 5 .mv [kc (-1)]]) .ret)
def B78 :Go.Vm.C:=(.seq (.af [ga 3 (.box (some 54)) [.t 1],ga 4 .mv [kc 0],ga 5 .mv [kc 0]]) (.seq (.af [ga 8 (.ld (some 54)) [.t 3],ga 9 (.call 38) [.t 8],gm 6 9]) (.seq (.seq (.af [ga 7 .mv [kc 0]]) (.block 0 Pb)) Pc)))
abbrev F78 :Go.Vm.Fn:=⟨38,B78,[(.t 4),(.t 5)],true⟩
theorem WK :bH Tryz.prog ob Tryz.f78 true=some F78:=by kernel_rfl
theorem WL :B78.fits 38=true:=by kernel_rfl
def B79 :Go.Vm.C:=(.seq (.af [ga 4 .mv [kc 0]]) (.seq (.seq (.af [gm 5 0,gm 6 1,ga 7 .aU [.t 5],ga 8 (.fa 78 2) [.t 7],ga 9 (.fg 77) [.t 8,.t 6],ga 10 (.fa 75 0) [.t 9],ga 11 (.ld none) [.t 10]]) (.block 0 (.seq (.af [ga 13 (.bin .num .eql) [.t 11,kc 0],gm 12 13]) (.cond (.t 12) (.seq (.af [ga 4 .mv [kc 26]]) .ret) (.seq (.af [ga 15 (.bin .num .eql) [.t 11,kc 2],gm 14 15]) (.cond (.t 14) (.seq (.af [ga 4 .mv [kc 27]]) .ret) .skip)))))) (.seq (.af [ga 4 .mv [kc 0]]) .ret)))
abbrev F79 :Go.Vm.Fn:=⟨16,B79,[(.t 4)],true⟩
theorem WM :bH Tryz.prog ob Tryz.f79 true=some F79:=by kernel_rfl
theorem WN :B79.fits 16=true:=by kernel_rfl
def HT :Go.Vm.C:=(.loop (.seq (.seq (.af [gm 17 4,ga 18 .len [.t 17],ga 19 (.bin .num .rem) [.t 18,kc 8],ga 20 (.bin .num .neq) [.t 19,kc 0]]) (.cond (.t 20) .skip (.exit 0))) (.block 1 (.af [gm 21 4,ga 22 (.gT none [(.s (.int .u8 0))] [0]) [(.c (.s (.int .u8 0)))],ga 23 (.app none 1) [.t 21,.t 22],gm 4 23]))))
def HU :Go.Vm.C:=(.loop (.seq (.seq (.af [gm 27 6,ga 28 (.bin .num .lss) [.t 27,kc 8]]) (.cond (.t 28) .skip (.exit 2))) (.seq (.block 3 (.seq (.af [gm 31 4,gm 32 5,ga 33 (.gO .u8) [.t 32],ga 34 (.gT none [(.s (.int .u8 0))] [0]) [.t 33],ga 35 (.app none 1) [.t 31,.t 34],gm 4 35]) (.af [gm 36 5,ga 37 (.bin .num .quo) [.t 36,(.c (.s (.int .u64 256)))],gm 5 37]))) (.af [gm 29 6,ga 30 (.bin .num .add) [.t 29,kc 1],gm 6 30]))))
def HV :Go.Vm.C:=(.loop (.seq (.seq (.af [gm 38 7,gm 39 4,ga 40 .len [.t 39],ga 41 (.bin .num .lss) [.t 38,.t 40]]) (.cond (.t 41) .skip (.exit 4))) (.seq (.block 5 (.seq (.bL [gl 0 1 (gm 44 3),gl 0 1 (gm 45 3),gl 0 1 (ga 46 (.de none) [.t 45,kc 0]),gl 0 1 (ga 47 (.ld none) [.t 46]),gl 0 0 (gm 48 4),gl 0 0 (gm 49 7),gl 0 0 (gm 50 7),gl 0 0 (ga 51 (.bin .num .add) [.t 50,kc 4]),gl 0 0 (ga 52 (.j2 none true true false) [.t 48,.t 49,.t 51]),gl 0 1 (ga 53 (.call 116) [.t 52]),gl 1 1 (ga 54 (.bin .num .xor) [.t 47,.t 53]),gl 1 1 (ga 55 (.de none) [.t 44,kc 0]),gl 1 2 (gn (.aY none) [.t 55,.t 54])]) (.seq (.bL [gl 0 1 (gm 56 3),gl 0 1 (gm 57 3),gl 0 1 (ga 58 (.de none) [.t 57,kc 3]),gl 0 1 (ga 59 (.ld none) [.t 58]),gl 0 0 (gm 60 4),gl 0 0 (gm 61 7),gl 0 0 (ga 62 (.bin .num .add) [.t 61,kc 4]),gl 0 0 (gm 63 7),gl 0 0 (ga 64 (.bin .num .add) [.t 63,kc 8]),gl 0 0 (ga 65 (.j2 none true true false) [.t 60,.t 62,.t 64]),gl 0 1 (ga 66 (.call 116) [.t 65]),gl 1 1 (ga 67 (.bin .num .xor) [.t 59,.t 66]),gl 1 1 (ga 68 (.de none) [.t 56,kc 3]),gl 1 2 (gn (.aY none) [.t 68,.t 67])]) (.seq (.af [gm 69 3,ga 70 (.call 117) [.t 69]]) (.seq (.af [gm 71 3,ga 72 (.call 117) [.t 71]]) (.af [gm 73 3,ga 74 (.call 117) [.t 73]])))))) (.af [gm 42 7,ga 43 (.bin .num .add) [.t 42,kc 8],gm 7 43]))))
def HW :Go.Vm.C:=(.loop (.seq (.seq (.af [gm 75 8,ga 76 (.bin .num .lss) [.t 75,kc 8]]) (.cond (.t 76) .skip (.exit 6))) (.seq (.block 7 (.af [gm 79 3,ga 80 (.call 117) [.t 79]])) (.af [gm 77 8,ga 78 (.bin .num .add) [.t 77,kc 1],gm 8 78]))))
def HX :Go.Vm.C:=(.loop (.seq (.seq (.af [gm 81 10,ga 82 (.bin .num .lss) [.t 81,kc 16]]) (.cond (.t 82) .skip (.exit 8))) (.seq (.block 9 (.seq (.af [gm 85 10,gm 86 3,gm 87 10,ga 88 (.bin .num .quo) [.t 87,kc 4],ga 89 (.de none) [.t 86,.t 88],ga 90 (.ld none) [.t 89],ga 91 (.gO .u8) [.t 90],ga 92 (.fg 27) [.t 9,.t 85],gn (.aY none) [.t 92,.t 91]]) (.af [gm 93 3,gm 94 10,ga 95 (.bin .num .quo) [.t 94,kc 4],gm 96 3,gm 97 10,ga 98 (.bin .num .quo) [.t 97,kc 4],ga 99 (.de none) [.t 96,.t 98],ga 100 (.ld none) [.t 99],ga 101 (.bin .num .quo) [.t 100,(.c (.s (.int .u32 256)))],ga 102 (.de none) [.t 93,.t 95],gn (.aY none) [.t 102,.t 101]]))) (.af [gm 83 10,ga 84 (.bin .num .add) [.t 83,kc 1],gm 10 84]))))
def HY :Go.Vm.C:=(.seq (.af [ga 103 (.ld (some 27)) [.t 9],gn (.aY (some 27)) [.t 2,.t 103]]) .ret)
def HZ :Go.Vm.C:=(.seq (.af [ga 9 (.eS (some 27) (bC 27)) []]) (.seq (.seq (.af [ga 10 .mv [kc 0]]) (.block 8 HX)) HY))
def H9 :Go.Vm.C:=(.seq (.seq (.af [ga 8 .mv [kc 0]]) (.block 6 HW)) HZ)
def Ia :Go.Vm.C:=(.seq (.seq (.af [ga 7 .mv [kc 0]]) (.block 4 HV)) H9)
def Ib :Go.Vm.C:=(.seq (.af [gm 24 0,ga 25 .len [.t 24],ga 26 (.gO .u64) [.t 25],gm 5 26]) (.seq (.seq (.af [ga 6 .mv [kc 0]]) (.block 2 HU)) Ia))
def B80 :Go.Vm.C:=(.seq (.af [ga 2 (.eS (some 27) (bC 27)) []]) (.seq (.af [ga 11 (.gT none [(.s (.int .u32 0)),(.s (.int .u32 0)),(.s (.int .u32 0)),(.s (.int .u32 0))] [0,1,2,3]) [(.c (.s (.int .u32 1668047222))),(.c (.s (.int .u32 1768383858))),(.c (.s (.int .u32 1801807216))),(.c (.s (.int .u32 1935763045)))],gm 3 11]) (.seq (.af [ga 12 (.gT none [] []) [],gm 13 0,ga 14 (.app none 1) [.t 12,.t 13],ga 15 (.gT none [(.s (.int .u8 0))] [0]) [(.c (.s (.int .u8 128)))],ga 16 (.app none 1) [.t 14,.t 15],gm 4 16]) (.seq (.block 0 HT) Ib))))
abbrev F80 :Go.Vm.Fn:=⟨104,B80,[(.cell 2 (some 27))],true⟩
theorem WO :bH Tryz.prog ob Tryz.f80 true=some F80:=by kernel_rfl
theorem WQ :B80.fits 104=true:=by kernel_rfl
def B81 :Go.Vm.C:=(.seq (.af [ga 12 .mv [kc 0]]) (.seq (.af [ga 14 (.call 49) [],gm 13 14]) (.seq (.seq (.af [gm 15 0,gm 16 1,gm 17 2,gm 18 3,gm 19 4,gm 20 5,ga 21 (.call 118) [.t 15,.t 16,.t 17,.t 18,.t 19,.t 20],ga 22 (.un .not) [.t 21],gm 23 22,gw 23 false 24 .mv [.t 13],gw 23 false 25 .mv [.t 5],gw 23 false 26 (.call 76) [.t 24,.t 25],gw 23 false 27 (.bin .num .neq) [.t 26,kc 0],ga 28 .pick [.t 23,kb true,.t 27]]) (.cond (.t 28) (.seq (.af [ga 12 .mv [kc 1]]) .ret) .skip)) (.seq (.af [gm 29 0,ga 30 .aU [.t 29],ga 31 (.fa 103 2) [.t 30],ga 32 (.ld none) [.t 31],gm 33 1,gm 34 2,gm 35 3,gm 36 4,gm 37 13,ga 38 (.dN 107 [ki,ku,ki,(.s (.pointer none))] [0,1,2,3]) [.t 34,.t 35,.t 36,.t 37],ga 39 (.de (some 107)) [.t 32,.t 33],gn (.aY (some 107)) [.t 39,.t 38]]) (.seq (.af [ga 12 .mv [kc 0]]) .ret)))))
abbrev F81 :Go.Vm.Fn:=⟨40,B81,[(.t 12)],false⟩
theorem WR :bH Tryz.prog ob Tryz.f81 false=some F81:=by kernel_rfl
theorem WS :B81.fits 40=true:=by kernel_rfl
def Ic :Go.Vm.C:=(.loop (.seq (.af [ga 12 (.bin .num .lss) [.t 11,.t 10]]) (.seq (.cond (.t 12) .skip (.exit 0)) (.seq (.block 1 (.seq (.af [ga 13 (.de (some 56)) [.t 9,.t 11],ga 14 (.ld (some 56)) [.t 13],ga 5 (.eS (some 56) (.st 56 [(z4 54),ku,(bC 27),kx,ki,ki,(bC 27),(.s (.bool false)),(.s (.bool false))])) [],gn (.aY (some 56)) [.t 5,.t 14]]) (.af [gm 15 3,ga 16 (.ld (some 56)) [.t 5],ga 17 (.call 109) [.t 16],ga 18 (.gT (some 56) [(.st 56 [(z4 54),ku,(bC 27),kx,ki,ki,(bC 27),(.s (.bool false)),(.s (.bool false))])] [0]) [.t 17],ga 19 (.app (some 56) 96) [.t 15,.t 18],gm 3 19]))) (.af [ga 20 (.bin .num .add) [.t 11,kc 1],gm 11 20])))))
def Ie :Go.Vm.C:=(.seq (.af [gm 21 3,gm 2 21]) .ret)
def B82 :Go.Vm.C:=(.seq (.af [ga 2 .mv [(.c (.al true (some 56) []))]]) (.seq (.af [ga 3 .mv [(.c (.al true (some 56) []))]]) (.seq (.seq (.af [gm 6 0,ga 7 .aU [.t 6],ga 8 (.fa 141 0) [.t 7],ga 9 (.ld none) [.t 8],ga 10 .len [.t 9],ga 11 .mv [kc 0]]) (.block 0 Ic)) Ie)))
abbrev F82 :Go.Vm.Fn:=⟨22,B82,[(.t 2)],true⟩
theorem WT :bH Tryz.prog ob Tryz.f82 true=some F82:=by kernel_rfl
theorem WU :B82.fits 22=true:=by kernel_rfl
def B83 :Go.Vm.C:=(.seq (.af [ga 2 .mv [kb false]]) (.seq (.af [gm 3 0,ga 4 (.bin .num .geq) [.t 3,kc 0],gm 5 4,gw 5 true 6 .mv [.t 0],gw 5 true 7 (.bin .num .lss) [.t 6,kc 16],ga 8 .pick [.t 5,.t 7,kb false],gm 2 8]) .ret))
abbrev F83 :Go.Vm.Fn:=⟨9,B83,[(.t 2)],true⟩
theorem WV :bH Tryz.prog ob Tryz.f83 true=some F83:=by kernel_rfl
theorem WW :B83.fits 9=true:=by kernel_rfl
def yA :Go.Vm.C:=(.seq (.af [ga 1 (.box (some 56)) [.t 0],ga 2 .mv [kb false]]) (.seq (.block 0 (.seq (.af [ga 4 (.fa 56 1) [.t 1],ga 5 (.ld none) [.t 4],ga 6 (.bin .num .lss) [.t 5,(.c (.s (.int .u64 1)))],gm 7 6,gw 7 false 8 (.fa 56 1) [.t 1],gw 7 false 9 (.ld none) [.t 8],gw 7 false 10 (.bin .num .gtr) [.t 9,(.c (.s (.int .u64 1099511627776)))],ga 11 .pick [.t 7,kb true,.t 10],gm 3 11]) (.cond (.t 3) (.seq (.af [ga 2 .mv [kb false]]) .ret) (.seq (.af [ga 13 (.fa 56 7) [.t 1],ga 14 (.ld none) [.t 13],gm 12 14]) (.cond (.t 12) (.seq (.af [ga 15 (.fa 56 2) [.t 1],ga 16 (.ld (some 27)) [.t 15],ga 17 (.jD 27 [(.s (.int .u8 0)),(.s (.int .u8 0)),(.s (.int .u8 0)),(.s (.int .u8 0)),(.s (.int .u8 0)),(.s (.int .u8 0)),(.s (.int .u8 0)),(.s (.int .u8 0)),(.s (.int .u8 0)),(.s (.int .u8 0)),(.s (.int .u8 0)),(.s (.int .u8 0)),(.s (.int .u8 0)),(.s (.int .u8 0)),(.s (.int .u8 0)),(.s (.int .u8 0))] []) [],ga 18 (.ve 27 .u8 false) [.t 16,.t 17],gm 19 18,gw 19 true 20 (.fa 56 6) [.t 1],gw 19 true 21 (.ld (some 27)) [.t 20],gw 19 true 22 (.jD 27 [(.s (.int .u8 0)),(.s (.int .u8 0)),(.s (.int .u8 0)),(.s (.int .u8 0)),(.s (.int .u8 0)),(.s (.int .u8 0)),(.s (.int .u8 0)),(.s (.int .u8 0)),(.s (.int .u8 0)),(.s (.int .u8 0)),(.s (.int .u8 0)),(.s (.int .u8 0)),(.s (.int .u8 0)),(.s (.int .u8 0)),(.s (.int .u8 0)),(.s (.int .u8 0))] []) [],gw 19 true 23 (.ve 27 .u8 false) [.t 21,.t 22],ga 24 .pick [.t 19,.t 23,kb false],gm 25 24,gw 25 true 26 (.fa 56 3) [.t 1],gw 25 true 27 (.ld none) [.t 26],gw 25 true 28 .len [.t 27],gw 25 true 29 (.bin .num .eql) [.t 28,kc 0],ga 30 .pick [.t 25,.t 29,kb false],gm 31 30,gw 31 true 32 (.fa 56 4) [.t 1],gw 31 true 33 (.ld none) [.t 32],gw 31 true 34 (.bin .num .eql) [.t 33,kc 0],ga 35 .pick [.t 31,.t 34,kb false],gm 36 35,gw 36 true 37 (.fa 56 5) [.t 1],gw 36 true 38 (.ld none) [.t 37],gw 36 true 39 (.bin .num .eql) [.t 38,kc 0],ga 40 .pick [.t 36,.t 39,kb false],gm 2 40]) .ret) .skip))))) (.seq (.af [ga 41 (.fa 56 8) [.t 1],ga 42 (.ld none) [.t 41],ga 43 (.un .not) [.t 42],gm 44 43,gw 44 true 45 (.fa 56 4) [.t 1],gw 44 true 46 (.ld none) [.t 45],gw 44 true 47 (.bin .num .geq) [.t 46,kc 1],ga 48 .pick [.t 44,.t 47,kb false],gm 49 48,gw 49 true 50 (.fa 56 4) [.t 1],gw 49 true 51 (.ld none) [.t 50],gw 49 true 52 (.bin .num .leq) [.t 51,kc 32],ga 53 .pick [.t 49,.t 52,kb false],gm 54 53,gw 54 true 55 (.fa 56 5) [.t 1],gw 54 true 56 (.ld none) [.t 55],gw 54 true 57 (.bin .num .geq) [.t 56,kc 0],ga 58 .pick [.t 54,.t 57,kb false],gm 59 58,gw 59 true 60 (.fa 56 5) [.t 1],gw 59 true 61 (.ld none) [.t 60],gw 59 true 62 (.fa 56 4) [.t 1],gw 59 true 63 (.ld none) [.t 62],gw 59 true 64 (.bin .num .lss) [.t 61,.t 63],ga 65 .pick [.t 59,.t 64,kb false],gm 66 65,gw 66 true 67 (.fa 56 3) [.t 1],gw 66 true 68 (.ld none) [.t 67],gw 66 true 69 .len [.t 68],gw 66 true 70 (.bin .num .leq) [.t 69,kc 64],ga 71 .pick [.t 66,.t 70,kb false],gm 2 71]) .ret)))
abbrev F84 :Go.Vm.Fn:=⟨72,yA,[(.t 2)],true⟩
theorem WX :bH Tryz.prog ob Tryz.f84 true=some F84:=by kernel_rfl
theorem Pd :yA.fits 72=true:=by kernel_rfl
def B85 :Go.Vm.C:=(.seq (.af [ga 1 (.box (some 56)) [.t 0],ga 2 .mv [(.c (.al true none []))]]) (.seq (.af [ga 3 .mv [(.c (.s (.int .u8 0)))]]) (.seq (.block 0 (.seq (.af [ga 5 (.fa 56 8) [.t 1],ga 6 (.ld none) [.t 5],gm 4 6]) (.cond (.t 4) (.af [ga 3 .mv [(.c (.s (.int .u8 3)))]]) (.seq (.af [ga 8 (.fa 56 7) [.t 1],ga 9 (.ld none) [.t 8],gm 7 9]) (.cond (.t 7) (.af [ga 3 .mv [(.c (.s (.int .u8 1)))]]) .skip))))) (.seq (.bL [gl 0 1 (ga 10 (.fa 56 0) [.t 1]),gl 0 1 (ga 11 (.nU 54 none false false) [.t 10]),gl 0 0 (ga 12 (.fa 56 1) [.t 1]),gl 0 0 (ga 13 (.ld none) [.t 12]),gl 0 1 (ga 14 (.call 44) [.t 13]),gl 0 1 (gm 15 3),gl 0 1 (ga 16 (.fa 56 4) [.t 1]),gl 0 1 (ga 17 (.ld none) [.t 16]),gl 0 1 (ga 18 (.gO .u8) [.t 17]),gl 0 1 (ga 19 (.fa 56 5) [.t 1]),gl 0 1 (ga 20 (.ld none) [.t 19]),gl 0 1 (ga 21 (.gO .u8) [.t 20]),gl 0 1 (ga 22 (.CP none [(.s (.int .u8 0)),(.s (.int .u8 0)),(.s (.int .u8 0))] [0,1,2]) [.t 15,.t 18,.t 21]),gl 0 1 (ga 23 (.fa 56 2) [.t 1]),gl 0 1 (ga 24 (.nU 27 none false false) [.t 23]),gl 0 1 (ga 25 (.fa 56 6) [.t 1]),gl 0 1 (ga 26 (.nU 27 none false false) [.t 25]),gl 0 1 (ga 27 (.fa 56 3) [.t 1]),gl 0 1 (ga 28 (.ld none) [.t 27]),gl 0 1 (ga 29 .len [.t 28]),gl 0 1 (ga 30 (.gO .u8) [.t 29]),gl 0 1 (ga 31 (.CP none [(.s (.int .u8 0))] [0]) [.t 30]),gl 0 1 (ga 32 (.fa 56 3) [.t 1]),gl 0 1 (ga 33 (.ld none) [.t 32]),gl 1 1 (ga 34 (.CP none [kx,kx,kx,kx,kx,kx,kx] [0,1,2,3,4,5,6]) [.t 11,.t 14,.t 22,.t 24,.t 26,.t 31,.t 33]),gl 1 1 (ga 35 (.mA 119) [.t 34]),gl 1 1 (gm 2 35)]) .ret))))
abbrev F85 :Go.Vm.Fn:=⟨36,B85,[(.t 2)],true⟩
theorem WY :bH Tryz.prog ob Tryz.f85 true=some F85:=by kernel_rfl
theorem WZ :B85.fits 36=true:=by kernel_rfl
def B86 :Go.Vm.C:=(.seq (.af [ga 5 (.box (some 27)) [.t 2],ga 6 .mv [(.c (.s (.pointer none)))]]) (.seq (.af [gm 8 0,gm 9 1,ga 10 (.call 5) [.t 8,.t 9],gm 7 10]) (.seq (.seq (.af [gm 11 7,ga 12 (.bin .ptr .eql) [.t 11,(.c (.s (.pointer none)))]]) (.cond (.t 12) (.seq (.af [ga 6 .mv [(.c (.s (.pointer none)))]]) .ret) .skip)) (.seq (.af [gm 13 0,gm 14 1,ga 15 (.ld (some 27)) [.t 5],gm 16 0,ga 17 (.call 120) [.t 15,.t 16],gm 18 7,ga 19 (.call 121) [],ga 20 (.dN 37 [ki,ki,(bC 27),ki,(.s (.pointer none)),(.s (.pointer none)),(.st 35 [ku,ku,ku,(bC 27),ki]),ki,ki,ki] [0,1,2,3,4,5,7]) [.t 13,.t 14,.t 17,kc 1,.t 18,.t 19,kc (-1)],ga 21 (.box (some 37)) [.t 20],gm 6 21]) .ret))))
abbrev F86 :Go.Vm.Fn:=⟨22,B86,[(.t 6)],false⟩
theorem W0 :bH Tryz.prog ob Tryz.f86 false=some F86:=by kernel_rfl
theorem W2 :B86.fits 22=true:=by kernel_rfl
def B88 :Go.Vm.C:=(.seq (.af [ga 2 (.eS (some 110) (.st 110 [(.s (.bool false)),kx])) []]) (.seq (.af [gm 3 0,ga 4 (.call 87) [.t 3],ga 5 (.dN 110 [(.s (.bool false)),kx] [0,1]) [kb true,.t 4],gn (.aY (some 110)) [.t 2,.t 5]]) .ret))
abbrev F88 :Go.Vm.Fn:=⟨6,B88,[(.cell 2 (some 110))],false⟩
theorem W3 :bH Tryz.prog ob Tryz.f88 false=some F88:=by kernel_rfl
theorem W4 :B88.fits 6=true:=by kernel_rfl
def B89 :Go.Vm.C:=(.seq (.af [ga 3 (.box (some 27)) [.t 0],ga 5 (.box (some 35)) [.t 2],ga 6 .mv [(.c (.al true none []))],ga 7 (.eS (some 27) (bC 27)) [],ga 8 .mv [kc 0]]) (.seq (.seq (.af [ga 13 (.fa 35 2) [.t 5],ga 14 (.ld none) [.t 13],ga 15 (.bin .num .eql) [.t 14,(.c ku)]]) (.cond (.t 15) (.seq (.af [ga 16 (.jD 27 [(.s (.int .u8 0)),(.s (.int .u8 0)),(.s (.int .u8 0)),(.s (.int .u8 0)),(.s (.int .u8 0)),(.s (.int .u8 0)),(.s (.int .u8 0)),(.s (.int .u8 0)),(.s (.int .u8 0)),(.s (.int .u8 0)),(.s (.int .u8 0)),(.s (.int .u8 0)),(.s (.int .u8 0)),(.s (.int .u8 0)),(.s (.int .u8 0)),(.s (.int .u8 0))] []) [],ga 6 .mv [(.c (.al true none []))],gn (.aY (some 27)) [.t 7,.t 16],ga 8 .mv [kc 0]]) .ret) .skip)) (.seq (.af [gm 18 1,ga 19 (.fa 35 4) [.t 5],ga 20 (.ld none) [.t 19],ga 21 (.call 90) [.t 18,.t 20],gm 17 21,ga 22 (.ext 0) [.t 17],ga 23 (.ext 1) [.t 17],gm 9 22,gm 10 23]) (.seq (.seq (.af [gm 24 10,ga 25 (.un .not) [.t 24]]) (.cond (.t 25) (.seq (.af [ga 26 (.jD 27 [(.s (.int .u8 0)),(.s (.int .u8 0)),(.s (.int .u8 0)),(.s (.int .u8 0)),(.s (.int .u8 0)),(.s (.int .u8 0)),(.s (.int .u8 0)),(.s (.int .u8 0)),(.s (.int .u8 0)),(.s (.int .u8 0)),(.s (.int .u8 0)),(.s (.int .u8 0)),(.s (.int .u8 0)),(.s (.int .u8 0)),(.s (.int .u8 0)),(.s (.int .u8 0))] []) [],ga 6 .mv [(.c (.al true none []))],gn (.aY (some 27)) [.t 7,.t 26],ga 8 .mv [kc 30]]) .ret) .skip)) (.seq (.af [ga 28 (.ld (some 27)) [.t 3],ga 29 (.fa 35 2) [.t 5],ga 30 (.ld none) [.t 29],ga 31 (.gT none [(.s (.int .u8 0)),(.s (.int .u8 0)),(.s (.int .u8 0)),(.s (.int .u8 0)),(.s (.int .u8 0))] [0,1,2,3,4]) [(.c (.s (.int .u8 105))),(.c (.s (.int .u8 109))),(.c (.s (.int .u8 97))),(.c (.s (.int .u8 103))),(.c (.s (.int .u8 101)))],ga 32 .oy [.t 31],gm 33 9,ga 34 (.call 122) [.t 28,.t 30,.t 32,.t 33],gm 27 34,ga 35 (.ext 0) [.t 27],ga 36 (.ext 1) [.t 27],gm 11 35,gm 12 36]) (.seq (.af [gm 37 11,gm 38 9,ga 39 (.call 60) [.t 38],gm 40 12,gm 6 37,gn (.aY (some 27)) [.t 7,.t 39],gm 8 40]) .ret))))))
abbrev F89 :Go.Vm.Fn:=⟨41,B89,[(.t 6),(.cell 7 (some 27)),(.t 8)],true⟩
theorem W5 :bH Tryz.prog ob Tryz.f89 true=some F89:=by kernel_rfl
theorem W6 :B89.fits 41=true:=by kernel_rfl
def B90 :Go.Vm.C:=(.seq (.af [ga 4 .mv [(.c (.al true none []))],ga 5 .mv [kb false]]) (.seq (.seq (.af [gm 6 1,ga 7 (.call 107) [.t 6],ga 8 (.un .not) [.t 7],gm 9 8,gw 9 false 10 .mv [.t 0],gw 9 false 11 .mv [.t 1],gw 9 false 12 .aU [.t 10],gw 9 false 13 (.fa 113 0) [.t 12],gw 9 false 14 (.fg 112) [.t 13,.t 11],gw 9 false 15 (.fa 110 0) [.t 14],gw 9 false 16 (.ld none) [.t 15],gw 9 false 17 (.un .not) [.t 16],ga 18 .pick [.t 9,kb true,.t 17]]) (.cond (.t 18) (.seq (.af [ga 4 .mv [(.c (.al true none []))],ga 5 .mv [kb false]]) .ret) .skip)) (.seq (.af [gm 19 0,gm 20 1,ga 21 .aU [.t 19],ga 22 (.fa 113 0) [.t 21],ga 23 (.fg 112) [.t 22,.t 20],ga 24 (.fa 110 1) [.t 23],ga 25 (.ld none) [.t 24],ga 26 (.call 87) [.t 25],gm 4 26,ga 5 .mv [kb true]]) .ret)))
abbrev F90 :Go.Vm.Fn:=⟨27,B90,[(.t 4),(.t 5)],true⟩
theorem W7 :bH Tryz.prog ob Tryz.f90 true=some F90:=by kernel_rfl
theorem W8 :B90.fits 27=true:=by kernel_rfl
def B91 :Go.Vm.C:=(.seq (.af [ga 4 (.box (some 27)) [.t 0],ga 6 (.box (some 27)) [.t 2],ga 8 (.eS (some 59) (.st 59 [ki,ki,ki,ku,(.st 56 [(z4 54),ku,(bC 27),kx,ki,ki,(bC 27),(.s (.bool false)),(.s (.bool false))]),(.al false (some 56) [])])) [],ga 9 .mv [kc 0]]) (.seq (.af [ga 13 (.ld (some 27)) [.t 4],gm 14 1,ga 15 (.nU 27 none false false) [.t 6],gm 16 3,ga 17 (.call 122) [.t 13,.t 14,.t 15,.t 16],gm 12 17,ga 18 (.ext 0) [.t 12],ga 19 (.ext 1) [.t 12],gm 10 18,gm 11 19]) (.seq (.seq (.af [gm 20 11,ga 21 (.bin .num .neq) [.t 20,kc 0]]) (.cond (.t 21) (.seq (.af [ga 22 (.dN 59 [ki,ki,ki,ku,(.st 56 [(z4 54),ku,(bC 27),kx,ki,ki,(bC 27),(.s (.bool false)),(.s (.bool false))]),(.al false (some 56) [])] []) [],gm 23 11,gn (.aY (some 59)) [.t 8,.t 22],gm 9 23]) .ret) .skip)) (.seq (.af [gm 24 10,ga 25 (.call 123) [.t 24],ga 26 (.ext 0) [.t 25],ga 27 (.ext 1) [.t 25],gn (.aY (some 59)) [.t 8,.t 26],gm 9 27]) .ret))))
abbrev F91 :Go.Vm.Fn:=⟨28,B91,[(.cell 8 (some 59)),(.t 9)],true⟩
theorem W9 :bH Tryz.prog ob Tryz.f91 true=some F91:=by kernel_rfl
theorem Xa :B91.fits 28=true:=by kernel_rfl
def Ig :Go.Vm.C:=(.loop (.seq (.af [ga 26 (.bin .num .lss) [.t 25,kc 16]]) (.seq (.cond (.t 26) .skip (.exit 0)) (.seq (.block 1 (.seq (.af [gm 27 25,gm 9 27]) (.seq (.seq (.af [gm 28 2,ga 29 .len [.t 28],ga 30 (.bin .num .lss) [.t 29,kc 11]]) (.cond (.t 30) (.seq (.af [ga 6 .mv [(.c (.s (.pointer none)))],ga 7 .mv [kb false]]) .ret) .skip)) (.seq (.af [gm 32 2,ga 33 (.j2 none true false false) [.t 32,kc 11],gm 34 2,ga 35 (.de none) [.t 34,kc 10],ga 36 (.ld none) [.t 35],ga 37 (.gO .i64) [.t 36],ga 38 (.call 124) [.t 33,.t 37],gm 31 38,ga 39 (.ext 0) [.t 31],ga 40 (.ext 1) [.t 31],ga 41 (.ext 2) [.t 31],gm 10 39,gm 11 40,gm 12 41]) (.seq (.seq (.bL [gl 0 0 (gm 42 12),gl 0 0 (ga 43 (.un .not) [.t 42]),gl 0 0 (gm 44 43),gl 0 1 (gw 44 false 45 .mv [.t 8]),gl 0 1 (gw 44 false 46 .mv [.t 9]),gl 0 1 (gw 44 false 47 .mv [.t 2]),gl 0 1 (gw 44 false 48 (.de none) [.t 47,kc 0]),gl 0 1 (gw 44 false 49 (.ld none) [.t 48]),gl 0 1 (gw 44 false 50 (.gO .i64) [.t 49]),gl 0 0 (gw 44 false 51 .mv [.t 2]),gl 0 0 (gw 44 false 52 (.j2 none true false false) [.t 51,kc 1]),gl 0 1 (gw 44 false 53 (.call 125) [.t 52]),gl 0 1 (gw 44 false 54 .mv [.t 2]),gl 0 1 (gw 44 false 55 (.de none) [.t 54,kc 9]),gl 0 1 (gw 44 false 56 (.ld none) [.t 55]),gl 0 1 (gw 44 false 57 (.gO .i64) [.t 56]),gl 0 1 (gw 44 false 58 .mv [.t 10]),gl 1 2 (gw 44 false 59 (.call 81) [.t 45,.t 46,.t 50,.t 53,.t 57,.t 58]),gl 2 2 (gw 44 false 60 (.bin .num .neq) [.t 59,kc 0]),gl 2 2 (ga 61 .pick [.t 44,kb true,.t 60])]) (.cond (.t 61) (.seq (.af [ga 6 .mv [(.c (.s (.pointer none)))],ga 7 .mv [kb false]]) .ret) .skip)) (.af [gm 62 11,gm 2 62])))))) (.af [ga 63 (.bin .num .add) [.t 25,kc 1],gm 25 63])))))
def Ih :Go.Vm.C:=(.seq (.af [gm 64 8,gm 6 64,ga 7 .mv [kb true]]) .ret)
def B92 :Go.Vm.C:=(.seq (.af [ga 6 .mv [(.c (.s (.pointer none)))],ga 7 .mv [kb false]]) (.seq (.af [gm 13 0,gm 14 1,ga 15 (.call 19) [.t 13,.t 14],gm 8 15]) (.seq (.seq (.af [gm 16 8,ga 17 (.bin .ptr .eql) [.t 16,(.c (.s (.pointer none)))],gm 18 17,gw 18 false 19 .mv [.t 2],gw 18 false 20 .len [.t 19],gw 18 false 21 (.bin .num .lss) [.t 20,kc 2],ga 22 .pick [.t 18,kb true,.t 21]]) (.cond (.t 22) (.seq (.af [ga 6 .mv [(.c (.s (.pointer none)))],ga 7 .mv [kb false]]) .ret) .skip)) (.seq (.af [gm 23 2,ga 24 (.j2 none true false false) [.t 23,kc 2],gm 2 24]) (.seq (.seq (.af [ga 25 .mv [kc 0]]) (.block 0 Ig)) Ih)))))
abbrev F92 :Go.Vm.Fn:=⟨65,B92,[(.t 6),(.t 7)],false⟩
theorem Xb :bH Tryz.prog ob Tryz.f92 false=some F92:=by kernel_rfl
theorem Xc :B92.fits 65=true:=by kernel_rfl
def B93 :Go.Vm.C:=(.seq (.af [ga 4 .mv [kb false]]) (.seq (.af [gm 5 0,ga 6 .yp [.t 5],gm 7 1,ga 8 .yp [.t 7],ga 9 (.bin .num .eql) [.t 6,.t 8],gm 4 9]) .ret))
abbrev F93 :Go.Vm.Fn:=⟨10,B93,[(.t 4)],true⟩
theorem Xd :bH Tryz.prog ob Tryz.f93 true=some F93:=by kernel_rfl
theorem Pe :B93.fits 10=true:=by kernel_rfl
def Pf :Go.Vm.C:=(.loop (.seq (.seq (.af [gm 5 4,ga 6 (.bin .num .lss) [.t 5,kc 256]]) (.cond (.t 6) .skip (.exit 0))) (.seq (.block 1 (.seq (.af [gm 9 4,ga 10 (.call 63) [.t 9],ga 11 (.call 38) [.t 10],gm 12 0,ga 13 (.bin .num .eql) [.t 11,.t 12]]) (.cond (.t 13) (.af [gm 14 3,gm 15 4,ga 16 (.call 63) [.t 15],ga 17 (.gT (some 54) [(z4 54)] [0]) [.t 16],ga 18 (.app (some 54) 4) [.t 14,.t 17],gm 3 18]) .skip))) (.af [gm 7 4,ga 8 (.bin .num .add) [.t 7,kc 1],gm 4 8]))))
def Pg :Go.Vm.C:=(.seq (.af [gm 19 3,gm 2 19]) .ret)
def B94 :Go.Vm.C:=(.seq (.af [ga 2 .mv [(.c (.al true (some 54) []))]]) (.seq (.af [ga 3 .mv [(.c (.al true (some 54) []))]]) (.seq (.seq (.af [ga 4 .mv [kc 0]]) (.block 0 Pf)) Pg)))
abbrev F94 :Go.Vm.Fn:=⟨20,B94,[(.t 2)],true⟩
theorem Xe :bH Tryz.prog ob Tryz.f94 true=some F94:=by kernel_rfl
theorem Xf :B94.fits 20=true:=by kernel_rfl
def B95 :Go.Vm.C:=(.seq (.af [ga 2 (.eS (some 27) (bC 27)) []]) (.seq (.af [gm 3 0,ga 4 (.gO .u8) [.t 3],gm 5 0,ga 6 (.bin .num .shr) [.t 5,(.c (.s (.int .u64 8)))],ga 7 (.gO .u8) [.t 6],ga 8 (.jD 27 [(.s (.int .u8 0)),(.s (.int .u8 0)),(.s (.int .u8 0)),(.s (.int .u8 0)),(.s (.int .u8 0)),(.s (.int .u8 0)),(.s (.int .u8 0)),(.s (.int .u8 0)),(.s (.int .u8 0)),(.s (.int .u8 0)),(.s (.int .u8 0)),(.s (.int .u8 0)),(.s (.int .u8 0)),(.s (.int .u8 0)),(.s (.int .u8 0)),(.s (.int .u8 0))] [0,1,2]) [.t 4,.t 7,(.c (.s (.int .u8 3)))],gn (.aY (some 27)) [.t 2,.t 8]]) .ret))
abbrev F95 :Go.Vm.Fn:=⟨9,B95,[(.cell 2 (some 27))],true⟩
theorem Xg :bH Tryz.prog ob Tryz.f95 true=some F95:=by kernel_rfl
theorem Xh :B95.fits 9=true:=by kernel_rfl
def B96 :Go.Vm.C:=(.seq (.af [ga 4 .mv [(.c (.al true none []))]]) (.seq (.seq (.af [gm 5 0,ga 6 .len [.t 5],gm 7 1,ga 8 (.bin .num .gtr) [.t 6,.t 7]]) (.cond (.t 8) (.seq (.af [gm 9 0,gm 10 1,ga 11 (.j2 none false true false) [.t 9,.t 10],gm 4 11]) .ret) .skip)) (.seq (.af [gm 12 0,gm 4 12]) .ret)))
abbrev F96 :Go.Vm.Fn:=⟨13,B96,[(.t 4)],true⟩
theorem Xi :bH Tryz.prog ob Tryz.f96 true=some F96:=by kernel_rfl
theorem Xj :B96.fits 13=true:=by kernel_rfl
def B97 :Go.Vm.C:=(.seq (.af [ga 1 (.box (some 56)) [.t 0],ga 2 .mv [kb false]]) (.seq (.af [ga 3 (.ld (some 56)) [.t 1],ga 4 (.dN 56 [(z4 54),ku,(bC 27),kx,ki,ki,(bC 27),(.s (.bool false)),(.s (.bool false))] []) [],ga 5 (.call 126) [.t 3,.t 4],gm 2 5]) .ret))
abbrev F97 :Go.Vm.Fn:=⟨6,B97,[(.t 2)],true⟩
theorem Xk :bH Tryz.prog ob Tryz.f97 true=some F97:=by kernel_rfl
theorem Xl :B97.fits 6=true:=by kernel_rfl
def Ii :Go.Vm.C:=(.loop (.seq (.af [ga 11 (.bin .num .lss) [.t 10,.t 9]]) (.seq (.cond (.t 11) .skip (.exit 0)) (.seq (.block 1 (.seq (.af [gm 12 10,ga 13 (.de (some 56)) [.t 8,.t 10],ga 14 (.ld (some 56)) [.t 13],ga 4 (.eS (some 56) (.st 56 [(z4 54),ku,(bC 27),kx,ki,ki,(bC 27),(.s (.bool false)),(.s (.bool false))])) [],gm 3 12,gn (.aY (some 56)) [.t 4,.t 14]]) (.seq (.af [ga 15 (.ld (some 56)) [.t 4],ga 16 (.call 84) [.t 15],ga 17 (.un .not) [.t 16],gm 18 17,gw 18 false 19 .mv [.t 3],gw 18 false 20 (.bin .num .gtr) [.t 19,kc 0],gw 18 false 21 .mv [.t 20],gw 21 true 22 .mv [.t 0],gw 21 true 23 .mv [.t 3],gw 21 true 24 (.bin .num .sub) [.t 23,kc 1],gw 21 true 25 (.de (some 56)) [.t 22,.t 24],gw 21 true 26 (.fa 56 0) [.t 25],gw 21 true 27 (.nU 54 none false false) [.t 26],gw 21 true 28 (.fa 56 0) [.t 4],gw 21 true 29 (.nU 54 none false false) [.t 28],gw 21 true 30 (.call 111) [.t 27,.t 29],gw 21 true 31 (.bin .num .geq) [.t 30,kc 0],gw 18 false 32 .pick [.t 21,.t 31,kb false],ga 33 .pick [.t 18,kb true,.t 32]]) (.cond (.t 33) (.seq (.af [ga 2 .mv [kb false]]) .ret) .skip)))) (.af [ga 34 (.bin .num .add) [.t 10,kc 1],gm 10 34])))))
def Ij :Go.Vm.C:=(.seq (.af [ga 2 .mv [kb true]]) .ret)
def B98 :Go.Vm.C:=(.seq (.af [ga 2 .mv [kb false]]) (.seq (.seq (.af [gm 5 0,ga 6 .len [.t 5],ga 7 (.bin .num .gtr) [.t 6,kc 4]]) (.cond (.t 7) (.seq (.af [ga 2 .mv [kb false]]) .ret) .skip)) (.seq (.seq (.af [gm 8 0,ga 9 .len [.t 8],ga 10 .mv [kc 0]]) (.block 0 Ii)) Ij)))
abbrev F98 :Go.Vm.Fn:=⟨35,B98,[(.t 2)],true⟩
theorem Xm :bH Tryz.prog ob Tryz.f98 true=some F98:=by kernel_rfl
theorem Xn :B98.fits 35=true:=by kernel_rfl
def B99 :Go.Vm.C:=(.seq (.af [ga 3 (.box (some 54)) [.t 1],ga 4 (.eS (some 56) (.st 56 [(z4 54),ku,(bC 27),kx,ki,ki,(bC 27),(.s (.bool false)),(.s (.bool false))])) [],ga 5 .mv [kb false]]) (.seq (.af [gm 9 0,ga 10 (.ld (some 54)) [.t 3],ga 11 (.call 108) [.t 9,.t 10],gm 8 11,ga 12 (.ext 0) [.t 8],ga 13 (.ext 1) [.t 8],gm 6 12,gm 7 13]) (.seq (.seq (.af [gm 14 7,ga 15 (.un .not) [.t 14]]) (.cond (.t 15) (.seq (.af [ga 16 (.dN 56 [(z4 54),ku,(bC 27),kx,ki,ki,(bC 27),(.s (.bool false)),(.s (.bool false))] []) [],gn (.aY (some 56)) [.t 4,.t 16],ga 5 .mv [kb false]]) .ret) .skip)) (.seq (.af [gm 17 0,ga 18 .aU [.t 17],ga 19 (.fa 141 0) [.t 18],ga 20 (.ld none) [.t 19],gm 21 6,ga 22 (.de (some 56)) [.t 20,.t 21],ga 23 (.ld (some 56)) [.t 22],ga 24 (.call 109) [.t 23],gn (.aY (some 56)) [.t 4,.t 24],ga 5 .mv [kb true]]) .ret))))
abbrev F99 :Go.Vm.Fn:=⟨25,B99,[(.cell 4 (some 56)),(.t 5)],true⟩
theorem Xo :bH Tryz.prog ob Tryz.f99 true=some F99:=by kernel_rfl
theorem Xp :B99.fits 25=true:=by kernel_rfl
def Ef :Go.Vm.C:=(.seq (.af [ga 2 .mv [kc 0]]) (.seq (.af [gm 3 0,ga 4 .aU [.t 3],ga 5 (.fa 141 0) [.t 4],ga 6 (.ld none) [.t 5],ga 7 .len [.t 6],gm 2 7]) .ret))
abbrev Xq :Go.Vm.Fn:=⟨8,Ef,[(.t 2)],true⟩
theorem PR :bH Tryz.prog ob Tryz.f100 true=some Xq:=by kernel_rfl
theorem PS :Ef.fits 8=true:=by kernel_rfl
def PT :Go.Vm.C:=(.seq (.af [ga 4 .mv [kb false]]) (.seq (.af [gm 5 0,gm 6 1,ga 7 (.call 127) [.t 5,.t 6],ga 8 (.bin .num .geq) [.t 7,kc 0],gm 4 8]) .ret))
abbrev Xr :Go.Vm.Fn:=⟨9,PT,[(.t 4)],true⟩
theorem PU :bH Tryz.prog ob Tryz.f101 true=some Xr:=by kernel_rfl
theorem PV :PT.fits 9=true:=by kernel_rfl
def PW :Go.Vm.C:=(.seq (.af [ga 2 (.box (some 56)) [.t 0],ga 3 .mv [kb false]]) (.seq (.bL [gl 0 0 (ga 4 (.fa 56 0) [.t 2]),gl 0 0 (ga 5 (.ld (some 54)) [.t 4]),gl 0 1 (ga 6 (.call 74) [.t 5]),gl 0 1 (ga 7 (.fa 59 1) [.t 1]),gl 0 1 (ga 8 (.ld none) [.t 7]),gl 1 1 (ga 9 (.bin .num .neq) [.t 6,.t 8]),gl 1 1 (gm 3 9)]) .ret))
abbrev Xs :Go.Vm.Fn:=⟨10,PW,[(.t 3)],true⟩
theorem PX :bH Tryz.prog ob Tryz.f102 true=some Xs:=by kernel_rfl
theorem PY :PW.fits 10=true:=by kernel_rfl
def Ik :Go.Vm.C:=(.loop (.seq (.af [ga 17 (.bin .num .lss) [.t 16,.t 15]]) (.seq (.cond (.t 17) .skip (.exit 0)) (.seq (.block 1 (.seq (.af [gm 18 16,gm 8 18]) (.af [gm 19 7,gm 20 8,ga 21 (.de none) [.t 19,.t 20],ga 22 (.ld none) [.t 21],gm 23 2,gm 24 8,ga 25 (.de none) [.t 23,.t 24],ga 26 (.ld none) [.t 25],ga 27 (.bin .num .xor) [.t 22,.t 26],ga 28 (.de none) [.t 19,.t 20],gn (.aY none) [.t 28,.t 27]]))) (.af [ga 29 (.bin .num .add) [.t 16,kc 1],gm 16 29])))))
def Il :Go.Vm.C:=(.seq (.af [gm 30 7,gm 6 30]) .ret)
def PZ :Go.Vm.C:=(.seq (.af [ga 3 (.box (some 27)) [.t 0],ga 6 .mv [(.c (.al true none []))]]) (.seq (.af [ga 9 (.ld (some 27)) [.t 3],gm 10 1,gm 11 2,ga 12 .len [.t 11],ga 13 (.call 128) [.t 9,.t 10,.t 12],gm 7 13]) (.seq (.seq (.af [gm 14 7,ga 15 .len [.t 14],ga 16 .mv [kc 0]]) (.block 0 Ik)) Il)))
abbrev Xt :Go.Vm.Fn:=⟨31,PZ,[(.t 6)],false⟩
theorem P0 :bH Tryz.prog ob Tryz.f103 false=some Xt:=by kernel_rfl
theorem P1 :PZ.fits 31=true:=by kernel_rfl
def P2 :Go.Vm.C:=(.seq (.af [ga 4 (.box (some 27)) [.t 0],ga 8 .mv [(.c (.al true none []))]]) (.seq (.af [ga 10 (.ld (some 27)) [.t 4],ga 11 (.ld (some 27)) [.t 4],ga 12 (.call 70) [.t 10,.t 11],gm 13 1,ga 14 (.call 44) [.t 13],gm 15 2,ga 16 .len [.t 15],ga 17 (.gO .u64) [.t 16],ga 18 (.call 44) [.t 17],gm 19 2,gm 20 3,ga 21 (.gT none [kx,kx,kx,kx] [0,1,2,3]) [.t 14,.t 18,.t 19,.t 20],ga 22 (.call 119) [.t 21],ga 23 (.call 51) [.t 12,.t 22],ga 9 (.eS (some 27) (bC 27)) [],gn (.aY (some 27)) [.t 9,.t 23]]) (.seq (.af [ga 24 (.nU 27 none false true) [.t 9,kc 8],gm 8 24]) .ret)))
abbrev Xu :Go.Vm.Fn:=⟨25,P2,[(.t 8)],false⟩
theorem P3 :bH Tryz.prog ob Tryz.f104 false=some Xu:=by kernel_rfl
theorem P4 :P2.fits 25=true:=by kernel_rfl
def AK :Go.Vm.C:=(.loop (.seq (.seq (.af [gm 5 4,ga 6 (.bin .num .geq) [.t 5,kc 0]]) (.cond (.t 6) .skip (.exit 0))) (.seq (.block 1 (.af [gm 9 3,ga 10 (.bin .num .shl) [.t 9,(.c (.s (.int .u64 8)))],gm 11 0,gm 12 4,ga 13 (.de none) [.t 11,.t 12],ga 14 (.ld none) [.t 13],ga 15 (.gO .u32) [.t 14],ga 16 (.bin .num .or) [.t 10,.t 15],gm 3 16])) (.af [gm 7 4,ga 8 (.bin .num .sub) [.t 7,kc 1],gm 4 8]))))
def AL :Go.Vm.C:=(.seq (.af [gm 17 3,gm 2 17]) .ret)
def L9 :Go.Vm.C:=(.seq (.af [ga 2 .mv [(.c (.s (.int .u32 0)))]]) (.seq (.af [ga 3 .mv [(.c (.s (.int .u32 0)))]]) (.seq (.seq (.af [ga 4 .mv [kc 3]]) (.block 0 AK)) AL)))
abbrev P5 :Go.Vm.Fn:=⟨18,L9,[(.t 2)],true⟩
theorem Im :bH Tryz.prog ob Tryz.f105 true=some P5:=by kernel_rfl
theorem P6 :L9.fits 18=true:=by kernel_rfl
def Ma :Go.Vm.C:=(.seq (.af [gm 2 0,ga 3 .aU [.t 2],ga 4 (.fg 163) [.t 3,kc 0],ga 5 (.ld none) [.t 4],gm 6 0,ga 7 .aU [.t 6],ga 8 (.fg 163) [.t 7,kc 1],ga 9 (.ld none) [.t 8],ga 10 (.bin .num .add) [.t 5,.t 9],ga 11 .aU [.t 2],ga 12 (.fg 163) [.t 11,kc 0],gn (.aY none) [.t 12,.t 10]]) (.seq (.af [gm 13 0,gm 14 0,ga 15 .aU [.t 14],ga 16 (.fg 163) [.t 15,kc 3],ga 17 (.ld none) [.t 16],gm 18 0,ga 19 .aU [.t 18],ga 20 (.fg 163) [.t 19,kc 0],ga 21 (.ld none) [.t 20],ga 22 (.bin .num .xor) [.t 17,.t 21],ga 23 (.call 129) [.t 22,kc 16],ga 24 .aU [.t 13],ga 25 (.fg 163) [.t 24,kc 3],gn (.aY none) [.t 25,.t 23]]) (.seq (.af [gm 26 0,ga 27 .aU [.t 26],ga 28 (.fg 163) [.t 27,kc 2],ga 29 (.ld none) [.t 28],gm 30 0,ga 31 .aU [.t 30],ga 32 (.fg 163) [.t 31,kc 3],ga 33 (.ld none) [.t 32],ga 34 (.bin .num .add) [.t 29,.t 33],ga 35 .aU [.t 26],ga 36 (.fg 163) [.t 35,kc 2],gn (.aY none) [.t 36,.t 34]]) (.seq (.af [gm 37 0,gm 38 0,ga 39 .aU [.t 38],ga 40 (.fg 163) [.t 39,kc 1],ga 41 (.ld none) [.t 40],gm 42 0,ga 43 .aU [.t 42],ga 44 (.fg 163) [.t 43,kc 2],ga 45 (.ld none) [.t 44],ga 46 (.bin .num .xor) [.t 41,.t 45],ga 47 (.call 129) [.t 46,kc 12],ga 48 .aU [.t 37],ga 49 (.fg 163) [.t 48,kc 1],gn (.aY none) [.t 49,.t 47]]) (.seq (.af [gm 50 0,ga 51 .aU [.t 50],ga 52 (.fg 163) [.t 51,kc 0],ga 53 (.ld none) [.t 52],gm 54 0,ga 55 .aU [.t 54],ga 56 (.fg 163) [.t 55,kc 1],ga 57 (.ld none) [.t 56],ga 58 (.bin .num .add) [.t 53,.t 57],ga 59 .aU [.t 50],ga 60 (.fg 163) [.t 59,kc 0],gn (.aY none) [.t 60,.t 58]]) (.seq (.af [gm 61 0,gm 62 0,ga 63 .aU [.t 62],ga 64 (.fg 163) [.t 63,kc 3],ga 65 (.ld none) [.t 64],gm 66 0,ga 67 .aU [.t 66],ga 68 (.fg 163) [.t 67,kc 0],ga 69 (.ld none) [.t 68],ga 70 (.bin .num .xor) [.t 65,.t 69],ga 71 (.call 129) [.t 70,kc 8],ga 72 .aU [.t 61],ga 73 (.fg 163) [.t 72,kc 3],gn (.aY none) [.t 73,.t 71]]) (.seq (.af [gm 74 0,ga 75 .aU [.t 74],ga 76 (.fg 163) [.t 75,kc 2],ga 77 (.ld none) [.t 76],gm 78 0,ga 79 .aU [.t 78],ga 80 (.fg 163) [.t 79,kc 3],ga 81 (.ld none) [.t 80],ga 82 (.bin .num .add) [.t 77,.t 81],ga 83 .aU [.t 74],ga 84 (.fg 163) [.t 83,kc 2],gn (.aY none) [.t 84,.t 82]]) (.af [gm 85 0,gm 86 0,ga 87 .aU [.t 86],ga 88 (.fg 163) [.t 87,kc 1],ga 89 (.ld none) [.t 88],gm 90 0,ga 91 .aU [.t 90],ga 92 (.fg 163) [.t 91,kc 2],ga 93 (.ld none) [.t 92],ga 94 (.bin .num .xor) [.t 89,.t 93],ga 95 (.call 129) [.t 94,kc 7],ga 96 .aU [.t 85],ga 97 (.fg 163) [.t 96,kc 1],gn (.aY none) [.t 97,.t 95]]))))))))
abbrev P7 :Go.Vm.Fn:=⟨98,Ma,[],true⟩
theorem Io :bH Tryz.prog ob Tryz.f106 true=some P7:=by kernel_rfl
theorem P8 :Ma.fits 98=true:=by kernel_rfl
def Mb :Go.Vm.C:=(.seq (.af [ga 2 .mv [kb false]]) (.seq (.af [gm 3 0,ga 4 (.bin .num .geq) [.t 3,kc 0],gm 5 4,gw 5 true 6 .mv [.t 0],gw 5 true 7 (.bin .num .lss) [.t 6,kc 10],ga 8 .pick [.t 5,.t 7,kb false],gm 2 8]) .ret))
abbrev Xv :Go.Vm.Fn:=⟨9,Mb,[(.t 2)],true⟩
theorem P9 :bH Tryz.prog ob Tryz.f107 true=some Xv:=by kernel_rfl
theorem Qa :Mb.fits 9=true:=by kernel_rfl
def Mc :Go.Vm.C:=(.seq (.af [ga 3 (.box (some 54)) [.t 1],ga 4 .mv [kc 0],ga 5 .mv [kb false]]) (.seq (.af [gm 6 0,ga 7 .aU [.t 6],ga 8 (.fa 141 0) [.t 7],ga 9 (.ld none) [.t 8],ga 10 (.ld (some 54)) [.t 3],ga 11 (.call 130) [.t 9,.t 10,(.c (.fn 131 []))],ga 12 (.ext 0) [.t 11],ga 13 (.ext 1) [.t 11],gm 4 12,gm 5 13]) .ret))
abbrev Xw :Go.Vm.Fn:=⟨14,Mc,[(.t 4),(.t 5)],true⟩
theorem Qb :bH Tryz.prog ob Tryz.f108 true=some Xw:=by kernel_rfl
theorem Qc :Mc.fits 14=true:=by kernel_rfl
def Qd :Go.Vm.C:=(.seq (.af [ga 1 (.box (some 56)) [.t 0],ga 2 (.eS (some 56) (.st 56 [(z4 54),ku,(bC 27),kx,ki,ki,(bC 27),(.s (.bool false)),(.s (.bool false))])) []]) (.seq (.af [ga 3 (.fa 56 3) [.t 1],ga 4 (.ld none) [.t 3],ga 5 (.call 87) [.t 4],ga 6 (.fa 56 3) [.t 1],gn (.aY none) [.t 6,.t 5]]) (.seq (.af [ga 7 (.ld (some 56)) [.t 1],gn (.aY (some 56)) [.t 2,.t 7]]) .ret)))
abbrev Xx :Go.Vm.Fn:=⟨8,Qd,[(.cell 2 (some 56))],true⟩
theorem Qe :bH Tryz.prog ob Tryz.f109 true=some Xx:=by kernel_rfl
theorem Qf :Qd.fits 8=true:=by kernel_rfl
def Ip :Go.Vm.C:=(.seq (.af [ga 2 .mv [kb false]]) (.seq (.af [gm 3 0,ga 4 (.bin .num .leq) [.t 3,(.c (.s (.int .u64 1099511627776)))],gm 2 4]) .ret))
abbrev Xy :Go.Vm.Fn:=⟨5,Ip,[(.t 2)],true⟩
theorem Qg :bH Tryz.prog ob Tryz.f112 true=some Xy:=by kernel_rfl
theorem Iq :Ip.fits 5=true:=by kernel_rfl
def Eg :Go.Vm.C:=(.seq (.af [ga 1 (.box (some 56)) [.t 0],ga 2 .mv [kb false]]) (.seq (.seq (.af [ga 3 (.fa 56 1) [.t 1],ga 4 (.ld none) [.t 3],ga 5 (.bin .num .lss) [.t 4,(.c (.s (.int .u64 1)))],gm 6 5,gw 6 false 7 (.fa 56 1) [.t 1],gw 6 false 8 (.ld none) [.t 7],gw 6 false 9 (.call 112) [.t 8],gw 6 false 10 (.un .not) [.t 9],ga 11 .pick [.t 6,kb true,.t 10]]) (.cond (.t 11) (.seq (.af [ga 2 .mv [kb false]]) .ret) .skip)) (.seq (.seq (.af [ga 12 (.fa 56 7) [.t 1],ga 13 (.ld none) [.t 12]]) (.cond (.t 13) (.seq (.af [ga 14 (.fa 56 4) [.t 1],ga 15 (.ld none) [.t 14],ga 16 (.bin .num .eql) [.t 15,kc 0],gm 17 16,gw 17 true 18 (.fa 56 5) [.t 1],gw 17 true 19 (.ld none) [.t 18],gw 17 true 20 (.bin .num .eql) [.t 19,kc 0],ga 21 .pick [.t 17,.t 20,kb false],gm 22 21,gw 22 true 23 (.fa 56 2) [.t 1],gw 22 true 24 (.ld (some 27)) [.t 23],gw 22 true 25 (.jD 27 [(.s (.int .u8 0)),(.s (.int .u8 0)),(.s (.int .u8 0)),(.s (.int .u8 0)),(.s (.int .u8 0)),(.s (.int .u8 0)),(.s (.int .u8 0)),(.s (.int .u8 0)),(.s (.int .u8 0)),(.s (.int .u8 0)),(.s (.int .u8 0)),(.s (.int .u8 0)),(.s (.int .u8 0)),(.s (.int .u8 0)),(.s (.int .u8 0)),(.s (.int .u8 0))] []) [],gw 22 true 26 (.ve 27 .u8 false) [.t 24,.t 25],ga 27 .pick [.t 22,.t 26,kb false],gm 28 27,gw 28 true 29 (.fa 56 6) [.t 1],gw 28 true 30 (.ld (some 27)) [.t 29],gw 28 true 31 (.jD 27 [(.s (.int .u8 0)),(.s (.int .u8 0)),(.s (.int .u8 0)),(.s (.int .u8 0)),(.s (.int .u8 0)),(.s (.int .u8 0)),(.s (.int .u8 0)),(.s (.int .u8 0)),(.s (.int .u8 0)),(.s (.int .u8 0)),(.s (.int .u8 0)),(.s (.int .u8 0)),(.s (.int .u8 0)),(.s (.int .u8 0)),(.s (.int .u8 0)),(.s (.int .u8 0))] []) [],gw 28 true 32 (.ve 27 .u8 false) [.t 30,.t 31],ga 33 .pick [.t 28,.t 32,kb false],gm 34 33,gw 34 true 35 (.fa 56 3) [.t 1],gw 34 true 36 (.ld none) [.t 35],gw 34 true 37 .len [.t 36],gw 34 true 38 (.bin .num .eql) [.t 37,kc 0],ga 39 .pick [.t 34,.t 38,kb false],gm 2 39]) .ret) .skip)) (.seq (.af [ga 40 (.fa 56 8) [.t 1],ga 41 (.ld none) [.t 40],ga 42 (.un .not) [.t 41],gm 43 42,gw 43 true 44 (.fa 56 4) [.t 1],gw 43 true 45 (.ld none) [.t 44],gw 43 true 46 (.bin .num .geq) [.t 45,kc 1],ga 47 .pick [.t 43,.t 46,kb false],gm 48 47,gw 48 true 49 (.fa 56 4) [.t 1],gw 48 true 50 (.ld none) [.t 49],gw 48 true 51 (.bin .num .leq) [.t 50,kc 32],ga 52 .pick [.t 48,.t 51,kb false],gm 53 52,gw 53 true 54 (.fa 56 5) [.t 1],gw 53 true 55 (.ld none) [.t 54],gw 53 true 56 (.bin .num .geq) [.t 55,kc 0],ga 57 .pick [.t 53,.t 56,kb false],gm 58 57,gw 58 true 59 (.fa 56 5) [.t 1],gw 58 true 60 (.ld none) [.t 59],gw 58 true 61 (.fa 56 4) [.t 1],gw 58 true 62 (.ld none) [.t 61],gw 58 true 63 (.bin .num .lss) [.t 60,.t 62],ga 64 .pick [.t 58,.t 63,kb false],gm 65 64,gw 65 true 66 (.fa 56 3) [.t 1],gw 65 true 67 (.ld none) [.t 66],gw 65 true 68 .len [.t 67],gw 65 true 69 (.bin .num .leq) [.t 68,kc 64],ga 70 .pick [.t 65,.t 69,kb false],gm 2 70]) .ret))))
abbrev Xz :Go.Vm.Fn:=⟨71,Eg,[(.t 2)],true⟩
theorem Qh :bH Tryz.prog ob Tryz.f113 true=some Xz:=by kernel_rfl
theorem Ir :Eg.fits 71=true:=by kernel_rfl
def Md :Go.Vm.C:=(.seq (.af [ga 1 (.box (some 56)) [.t 0],ga 2 .mv [kb false]]) (.seq (.af [ga 3 (.fa 56 0) [.t 1],ga 4 (.ld (some 54)) [.t 3],ga 5 (.jD 54 [(.s (.int .u8 0)),(.s (.int .u8 0)),(.s (.int .u8 0)),(.s (.int .u8 0))] []) [],ga 6 (.ve 54 .u8 false) [.t 4,.t 5],gm 7 6,gw 7 true 8 (.fa 56 1) [.t 1],gw 7 true 9 (.ld none) [.t 8],gw 7 true 10 (.bin .num .eql) [.t 9,(.c ku)],ga 11 .pick [.t 7,.t 10,kb false],gm 12 11,gw 12 true 13 (.fa 56 2) [.t 1],gw 12 true 14 (.ld (some 27)) [.t 13],gw 12 true 15 (.jD 27 [(.s (.int .u8 0)),(.s (.int .u8 0)),(.s (.int .u8 0)),(.s (.int .u8 0)),(.s (.int .u8 0)),(.s (.int .u8 0)),(.s (.int .u8 0)),(.s (.int .u8 0)),(.s (.int .u8 0)),(.s (.int .u8 0)),(.s (.int .u8 0)),(.s (.int .u8 0)),(.s (.int .u8 0)),(.s (.int .u8 0)),(.s (.int .u8 0)),(.s (.int .u8 0))] []) [],gw 12 true 16 (.ve 27 .u8 false) [.t 14,.t 15],ga 17 .pick [.t 12,.t 16,kb false],gm 18 17,gw 18 true 19 (.fa 56 3) [.t 1],gw 18 true 20 (.ld none) [.t 19],gw 18 true 21 .len [.t 20],gw 18 true 22 (.bin .num .eql) [.t 21,kc 0],ga 23 .pick [.t 18,.t 22,kb false],gm 24 23,gw 24 true 25 (.fa 56 4) [.t 1],gw 24 true 26 (.ld none) [.t 25],gw 24 true 27 (.bin .num .eql) [.t 26,kc 0],ga 28 .pick [.t 24,.t 27,kb false],gm 29 28,gw 29 true 30 (.fa 56 5) [.t 1],gw 29 true 31 (.ld none) [.t 30],gw 29 true 32 (.bin .num .eql) [.t 31,kc 0],ga 33 .pick [.t 29,.t 32,kb false],gm 34 33,gw 34 true 35 (.fa 56 6) [.t 1],gw 34 true 36 (.ld (some 27)) [.t 35],gw 34 true 37 (.jD 27 [(.s (.int .u8 0)),(.s (.int .u8 0)),(.s (.int .u8 0)),(.s (.int .u8 0)),(.s (.int .u8 0)),(.s (.int .u8 0)),(.s (.int .u8 0)),(.s (.int .u8 0)),(.s (.int .u8 0)),(.s (.int .u8 0)),(.s (.int .u8 0)),(.s (.int .u8 0)),(.s (.int .u8 0)),(.s (.int .u8 0)),(.s (.int .u8 0)),(.s (.int .u8 0))] []) [],gw 34 true 38 (.ve 27 .u8 false) [.t 36,.t 37],ga 39 .pick [.t 34,.t 38,kb false],gm 40 39,gw 40 true 41 (.fa 56 7) [.t 1],gw 40 true 42 (.ld none) [.t 41],gw 40 true 43 (.un .not) [.t 42],ga 44 .pick [.t 40,.t 43,kb false],gm 45 44,gw 45 true 46 (.fa 56 8) [.t 1],gw 45 true 47 (.ld none) [.t 46],gw 45 true 48 (.un .not) [.t 47],ga 49 .pick [.t 45,.t 48,kb false],gm 2 49]) .ret))
abbrev XA :Go.Vm.Fn:=⟨50,Md,[(.t 2)],true⟩
theorem Qi :bH Tryz.prog ob Tryz.f114 true=some XA:=by kernel_rfl
theorem Qj :Md.fits 50=true:=by kernel_rfl
def AM :Go.Vm.C:=(.loop (.seq (.seq (.af [gm 7 3,gm 8 0,ga 9 .len [.t 8],ga 10 (.bin .num .lss) [.t 7,.t 9]]) (.cond (.t 10) .skip (.exit 0))) (.seq (.block 1 (.seq (.af [gm 13 0,gm 14 3,ga 15 (.de (some 56)) [.t 13,.t 14],ga 16 (.ld (some 56)) [.t 15],ga 17 (.call 113) [.t 16],ga 18 (.un .not) [.t 17],gm 19 18,gw 19 false 20 .mv [.t 3],gw 19 false 21 (.bin .num .gtr) [.t 20,kc 0],gw 19 false 22 .mv [.t 21],gw 22 true 23 .mv [.t 0],gw 22 true 24 .mv [.t 3],gw 22 true 25 (.bin .num .sub) [.t 24,kc 1],gw 22 true 26 (.de (some 56)) [.t 23,.t 25],gw 22 true 27 (.fa 56 0) [.t 26],gw 22 true 28 (.nU 54 none false false) [.t 27],gw 22 true 29 .yp [.t 28],gw 22 true 30 .mv [.t 0],gw 22 true 31 .mv [.t 3],gw 22 true 32 (.de (some 56)) [.t 30,.t 31],gw 22 true 33 (.fa 56 0) [.t 32],gw 22 true 34 (.nU 54 none false false) [.t 33],gw 22 true 35 .yp [.t 34],gw 22 true 36 (.bin .num .geq) [.t 29,.t 35],gw 19 false 37 .pick [.t 22,.t 36,kb false],ga 38 .pick [.t 19,kb true,.t 37]]) (.cond (.t 38) (.seq (.af [ga 2 .mv [kb false]]) .ret) .skip))) (.af [gm 11 3,ga 12 (.bin .num .add) [.t 11,kc 1],gm 3 12]))))
def AN :Go.Vm.C:=(.seq (.af [ga 2 .mv [kb true]]) .ret)
def Me :Go.Vm.C:=(.seq (.af [ga 2 .mv [kb false]]) (.seq (.seq (.af [gm 4 0,ga 5 .len [.t 4],ga 6 (.bin .num .gtr) [.t 5,kc 4]]) (.cond (.t 6) (.seq (.af [ga 2 .mv [kb false]]) .ret) .skip)) (.seq (.seq (.af [ga 3 .mv [kc 0]]) (.block 0 AM)) AN)))
abbrev XC :Go.Vm.Fn:=⟨39,Me,[(.t 2)],true⟩
theorem Qk :bH Tryz.prog ob Tryz.f115 true=some XC:=by kernel_rfl
theorem Ql :Me.fits 39=true:=by kernel_rfl
def AO :Go.Vm.C:=(.loop (.seq (.seq (.af [gm 5 4,ga 6 (.bin .num .geq) [.t 5,kc 0]]) (.cond (.t 6) .skip (.exit 0))) (.seq (.block 1 (.af [gm 9 3,ga 10 (.bin .num .mul) [.t 9,(.c (.s (.int .u32 256)))],gm 11 0,gm 12 4,ga 13 (.de none) [.t 11,.t 12],ga 14 (.ld none) [.t 13],ga 15 (.gO .u32) [.t 14],ga 16 (.bin .num .add) [.t 10,.t 15],gm 3 16])) (.af [gm 7 4,ga 8 (.bin .num .sub) [.t 7,kc 1],gm 4 8]))))
def AP :Go.Vm.C:=(.seq (.af [gm 17 3,gm 2 17]) .ret)
def Mf :Go.Vm.C:=(.seq (.af [ga 2 .mv [(.c (.s (.int .u32 0)))]]) (.seq (.af [ga 3 .mv [(.c (.s (.int .u32 0)))]]) (.seq (.seq (.af [ga 4 .mv [kc 3]]) (.block 0 AO)) AP)))
abbrev XD :Go.Vm.Fn:=⟨18,Mf,[(.t 2)],true⟩
theorem Qm :bH Tryz.prog ob Tryz.f116 true=some XD:=by kernel_rfl
theorem Qn :Mf.fits 18=true:=by kernel_rfl
def Mg :Go.Vm.C:=(.seq (.af [gm 2 0,gm 3 0,ga 4 (.de none) [.t 3,kc 0],ga 5 (.ld none) [.t 4],gm 6 0,ga 7 (.de none) [.t 6,kc 1],ga 8 (.ld none) [.t 7],ga 9 (.bin .num .add) [.t 5,.t 8],ga 10 (.de none) [.t 2,kc 0],gn (.aY none) [.t 10,.t 9]]) (.seq (.af [gm 11 0,gm 12 0,ga 13 (.de none) [.t 12,kc 3],ga 14 (.ld none) [.t 13],gm 15 0,ga 16 (.de none) [.t 15,kc 0],ga 17 (.ld none) [.t 16],ga 18 (.bin .num .xor) [.t 14,.t 17],ga 19 (.call 135) [.t 18,kc 16],ga 20 (.de none) [.t 11,kc 3],gn (.aY none) [.t 20,.t 19]]) (.seq (.af [gm 21 0,gm 22 0,ga 23 (.de none) [.t 22,kc 2],ga 24 (.ld none) [.t 23],gm 25 0,ga 26 (.de none) [.t 25,kc 3],ga 27 (.ld none) [.t 26],ga 28 (.bin .num .add) [.t 24,.t 27],ga 29 (.de none) [.t 21,kc 2],gn (.aY none) [.t 29,.t 28]]) (.seq (.af [gm 30 0,gm 31 0,ga 32 (.de none) [.t 31,kc 1],ga 33 (.ld none) [.t 32],gm 34 0,ga 35 (.de none) [.t 34,kc 2],ga 36 (.ld none) [.t 35],ga 37 (.bin .num .xor) [.t 33,.t 36],ga 38 (.call 135) [.t 37,kc 12],ga 39 (.de none) [.t 30,kc 1],gn (.aY none) [.t 39,.t 38]]) (.seq (.af [gm 40 0,gm 41 0,ga 42 (.de none) [.t 41,kc 0],ga 43 (.ld none) [.t 42],gm 44 0,ga 45 (.de none) [.t 44,kc 1],ga 46 (.ld none) [.t 45],ga 47 (.bin .num .add) [.t 43,.t 46],ga 48 (.de none) [.t 40,kc 0],gn (.aY none) [.t 48,.t 47]]) (.seq (.af [gm 49 0,gm 50 0,ga 51 (.de none) [.t 50,kc 3],ga 52 (.ld none) [.t 51],gm 53 0,ga 54 (.de none) [.t 53,kc 0],ga 55 (.ld none) [.t 54],ga 56 (.bin .num .xor) [.t 52,.t 55],ga 57 (.call 135) [.t 56,kc 8],ga 58 (.de none) [.t 49,kc 3],gn (.aY none) [.t 58,.t 57]]) (.seq (.af [gm 59 0,gm 60 0,ga 61 (.de none) [.t 60,kc 2],ga 62 (.ld none) [.t 61],gm 63 0,ga 64 (.de none) [.t 63,kc 3],ga 65 (.ld none) [.t 64],ga 66 (.bin .num .add) [.t 62,.t 65],ga 67 (.de none) [.t 59,kc 2],gn (.aY none) [.t 67,.t 66]]) (.af [gm 68 0,gm 69 0,ga 70 (.de none) [.t 69,kc 1],ga 71 (.ld none) [.t 70],gm 72 0,ga 73 (.de none) [.t 72,kc 2],ga 74 (.ld none) [.t 73],ga 75 (.bin .num .xor) [.t 71,.t 74],ga 76 (.call 135) [.t 75,kc 7],ga 77 (.de none) [.t 68,kc 1],gn (.aY none) [.t 77,.t 76]]))))))))
abbrev XE :Go.Vm.Fn:=⟨78,Mg,[],true⟩
theorem Qo :bH Tryz.prog ob Tryz.f117 true=some XE:=by kernel_rfl
theorem Qp :Mg.fits 78=true:=by kernel_rfl
def pM :Go.Vm.C:=(.seq (.af [ga 7 (.box none) [.t 1],ga 12 .mv [kb false]]) (.seq (.block 0 (.seq (.af [ga 14 (.ld none) [.t 7],ga 15 (.call 83) [.t 14],ga 16 (.un .not) [.t 15],gm 17 16,gw 17 false 18 .mv [.t 2],gw 17 false 19 (.bin .num .lss) [.t 18,kc 0],ga 20 .pick [.t 17,kb true,.t 19],gm 21 20,gw 21 false 22 .mv [.t 2],gw 21 false 23 (.bin .num .gtr) [.t 22,kc 2],ga 24 .pick [.t 21,kb true,.t 23],gm 25 24,gw 25 false 26 .mv [.t 3],gw 25 false 27 (.bin .num .lss) [.t 26,(.c (.s (.int .u64 1)))],ga 28 .pick [.t 25,kb true,.t 27],gm 29 28,gw 29 false 30 .mv [.t 3],gw 29 false 31 (.bin .num .gtr) [.t 30,(.c (.s (.int .u64 1099511627776)))],ga 32 .pick [.t 29,kb true,.t 31],gm 13 32]) (.cond (.t 13) (.seq (.af [ga 12 .mv [kb false]]) .ret) (.seq (.seq (.af [gm 34 2,ga 35 (.bin .num .eql) [.t 34,kc 2],gm 36 35,gw 36 true 37 .mv [.t 4],gw 36 true 38 (.bin .num .lss) [.t 37,kc 0],gw 36 true 39 .mv [.t 38],gw 39 false 40 .mv [.t 4],gw 39 false 41 .mv [.t 0],gw 39 false 42 .aU [.t 41],gw 39 false 43 (.fa 103 1) [.t 42],gw 39 false 44 (.ld none) [.t 43],gw 39 false 45 (.bin .num .geq) [.t 40,.t 44],gw 36 true 46 .pick [.t 39,kb true,.t 45],gw 36 true 47 .mv [.t 46],gw 47 false 48 .mv [.t 4],gw 47 false 49 .mv [.t 0],gw 47 false 50 .aU [.t 49],gw 47 false 51 (.fa 103 0) [.t 50],gw 47 false 52 (.ld none) [.t 51],gw 47 false 53 (.bin .num .eql) [.t 48,.t 52],gw 36 true 54 .pick [.t 47,kb true,.t 53],ga 55 .pick [.t 36,.t 54,kb false],gm 33 55]) (.cond (.t 33) .skip (.af [gm 56 2,ga 57 (.bin .num .neq) [.t 56,kc 2],gm 58 57,gw 58 true 59 .mv [.t 4],gw 58 true 60 (.bin .num .neq) [.t 59,kc 0],ga 61 .pick [.t 58,.t 60,kb false],gm 33 61]))) (.cond (.t 33) (.seq (.af [ga 12 .mv [kb false]]) .ret) (.seq (.af [gm 63 2,ga 64 (.bin .num .eql) [.t 63,kc 0],gm 65 64,gw 65 true 66 .mv [.t 5],gw 65 true 67 .len [.t 66],gw 65 true 68 (.bin .num .gtr) [.t 67,kc 0],ga 69 .pick [.t 65,.t 68,kb false],gm 62 69]) (.cond (.t 62) (.seq (.af [ga 12 .mv [kb false]]) .ret) .skip))))))) (.seq (.af [gm 70 5,ga 71 (.mkf 136) [.t 7],ga 72 (.call 101) [.t 70,.t 71],ga 73 (.un .not) [.t 72],gm 12 73]) .ret)))
abbrev XF :Go.Vm.Fn:=⟨74,pM,[(.t 12)],true⟩
theorem Qq :bH Tryz.prog ob Tryz.f118 true=some XF:=by kernel_rfl
theorem Qr :pM.fits 74=true:=by kernel_rfl
def Is :Go.Vm.C:=(.loop (.seq (.af [ga 12 (.bin .num .lss) [.t 11,.t 10]]) (.seq (.cond (.t 12) .skip (.exit 0)) (.seq (.block 1 (.seq (.af [ga 13 (.de none) [.t 9,.t 11],ga 14 (.ld none) [.t 13],gm 5 14]) (.seq (.af [gm 15 3,gm 16 5,ga 17 .len [.t 16],ga 18 (.bin .num .add) [.t 15,.t 17],gm 3 18]) (.seq (.af [gm 19 3,ga 20 (.bin .num .lss) [.t 19,kc 0]]) (.cond (.t 20) (.af [ga 21 (.mki 9) [(.c (.s (.string ⟨#[108,101,110,32,111,117,116,32,111,102,32,114,97,110,103,101]⟩)))],gn .bad []]) .skip))))) (.af [ga 22 (.bin .num .add) [.t 11,kc 1],gm 11 22])))))
def It :Go.Vm.C:=(.loop (.seq (.af [ga 28 (.bin .num .lss) [.t 27,.t 26]]) (.seq (.cond (.t 28) .skip (.exit 2)) (.seq (.block 3 (.seq (.af [ga 29 (.de none) [.t 25,.t 27],ga 30 (.ld none) [.t 29],gm 8 30]) (.af [gm 31 6,gm 32 8,ga 33 (.app none 1) [.t 31,.t 32],gm 6 33]))) (.af [ga 34 (.bin .num .add) [.t 27,kc 1],gm 27 34])))))
def Iu :Go.Vm.C:=(.seq (.af [gm 35 6,gm 2 35]) .ret)
def Iv :Go.Vm.C:=(.seq (.af [gm 23 3,ga 24 (.call 137) [(.c (.al true none [])),.t 23],gm 6 24]) (.seq (.seq (.af [gm 25 0,ga 26 .len [.t 25],ga 27 .mv [kc 0]]) (.block 2 It)) Iu))
def Qs :Go.Vm.C:=(.seq (.af [ga 2 .mv [(.c (.al true none []))]]) (.seq (.af [ga 3 .mv [kc 0]]) (.seq (.seq (.af [gm 9 0,ga 10 .len [.t 9],ga 11 .mv [kc 0]]) (.block 0 Is)) Iv)))
abbrev XG :Go.Vm.Fn:=⟨36,Qs,[(.t 2)],true⟩
theorem Qt :bH Tryz.prog ob Tryz.f119 true=some XG:=by kernel_rfl
theorem Qu :Qs.fits 36=true:=by kernel_rfl
def Qv :Go.Vm.C:=(.seq (.af [ga 2 (.box (some 27)) [.t 0],ga 4 (.eS (some 27) (bC 27)) []]) (.seq (.af [ga 5 (.ld (some 27)) [.t 2],gm 6 1,ga 7 (.gO .u8) [.t 6],ga 8 (.gT none [(.s (.int .u8 0))] [0]) [.t 7],ga 9 (.call 138) [.t 5,.t 8],gn (.aY (some 27)) [.t 4,.t 9]]) .ret))
abbrev XH :Go.Vm.Fn:=⟨10,Qv,[(.cell 4 (some 27))],true⟩
theorem Qw :bH Tryz.prog ob Tryz.f120 true=some XH:=by kernel_rfl
theorem Qx :Qv.fits 10=true:=by kernel_rfl
def Qy :Go.Vm.C:=(.seq (.af [ga 0 .mv [(.c (.s (.pointer none)))]]) (.seq (.af [ga 1 (.dN 196 [(.arr 195 [(.st 193 [(.s (.bool false)),(.al true none [])]),(.st 193 [(.s (.bool false)),(.al true none [])]),(.st 193 [(.s (.bool false)),(.al true none [])]),(.st 193 [(.s (.bool false)),(.al true none [])]),(.st 193 [(.s (.bool false)),(.al true none [])]),(.st 193 [(.s (.bool false)),(.al true none [])]),(.st 193 [(.s (.bool false)),(.al true none [])]),(.st 193 [(.s (.bool false)),(.al true none [])]),(.st 193 [(.s (.bool false)),(.al true none [])]),(.st 193 [(.s (.bool false)),(.al true none [])])]),(.arr 195 [(.st 193 [(.s (.bool false)),(.al true none [])]),(.st 193 [(.s (.bool false)),(.al true none [])]),(.st 193 [(.s (.bool false)),(.al true none [])]),(.st 193 [(.s (.bool false)),(.al true none [])]),(.st 193 [(.s (.bool false)),(.al true none [])]),(.st 193 [(.s (.bool false)),(.al true none [])]),(.st 193 [(.s (.bool false)),(.al true none [])]),(.st 193 [(.s (.bool false)),(.al true none [])]),(.st 193 [(.s (.bool false)),(.al true none [])]),(.st 193 [(.s (.bool false)),(.al true none [])])]),ki,(.al true none []),ki] [2]) [kc (-1)],ga 2 (.box (some 196)) [.t 1],gm 0 2]) .ret))
abbrev XI :Go.Vm.Fn:=⟨3,Qy,[(.t 0)],false⟩
theorem Qz :bH Tryz.prog ob Tryz.f121 false=some XI:=by kernel_rfl
theorem QA :Qy.fits 3=true:=by kernel_rfl
def AQ :Go.Vm.C:=(.seq (.af [ga 4 (.box (some 27)) [.t 0],ga 8 .mv [(.c (.al true none []))],ga 9 .mv [kc 0]]) (.seq (.seq (.af [gm 12 3,ga 13 .len [.t 12],ga 14 (.bin .num .lss) [.t 13,kc 8],gm 15 14,gw 15 false 16 .mv [.t 3],gw 15 false 17 .len [.t 16],gw 15 false 18 (.bin .num .gtr) [.t 17,kc 8192],ga 19 .pick [.t 15,kb true,.t 18],gm 20 19,gw 20 false 21 .mv [.t 2],gw 20 false 22 .len [.t 21],gw 20 false 23 (.bin .num .gtr) [.t 22,kc 8192],ga 24 .pick [.t 20,kb true,.t 23]]) (.cond (.t 24) (.seq (.af [ga 8 .mv [(.c (.al true none []))],ga 9 .mv [kc 30]]) .ret) .skip)) (.seq (.af [gm 25 3,ga 26 .len [.t 25],ga 27 (.bin .num .sub) [.t 26,kc 8],gm 10 27]) (.seq (.af [ga 28 (.ld (some 27)) [.t 4],gm 29 1,gm 30 3,gm 31 10,ga 32 (.j2 none false true false) [.t 30,.t 31],ga 33 (.call 103) [.t 28,.t 29,.t 32],gm 11 33]) (.seq (.seq (.bL [gl 0 0 (ga 34 (.ld (some 27)) [.t 4]),gl 0 0 (gm 35 1),gl 0 0 (gm 36 2),gl 0 0 (gm 37 11),gl 0 1 (ga 38 (.call 104) [.t 34,.t 35,.t 36,.t 37]),gl 0 1 (gm 39 3),gl 0 1 (gm 40 10),gl 0 1 (ga 41 (.j2 none true false false) [.t 39,.t 40]),gl 1 2 (ga 42 (.call 139) [.t 38,.t 41]),gl 2 2 (ga 43 (.un .not) [.t 42])]) (.cond (.t 43) (.seq (.af [ga 8 .mv [(.c (.al true none []))],ga 9 .mv [kc 30]]) .ret) .skip)) (.seq (.af [gm 44 11,gm 8 44,ga 9 .mv [kc 0]]) .ret))))))
abbrev XJ :Go.Vm.Fn:=⟨45,AQ,[(.t 8),(.t 9)],true⟩
theorem QB :bH Tryz.prog ob Tryz.f122 true=some XJ:=by kernel_rfl
theorem QC :AQ.fits 45=true:=by kernel_rfl
def Iw :Go.Vm.C:=(.loop (.seq (.af [ga 42 (.bin .num .lss) [.t 41,.t 40]]) (.seq (.cond (.t 42) .skip (.exit 1)) (.seq (.block 2 (.bL [gl 0 2 (ga 43 (.fa 59 5) [.t 5]),gl 0 2 (ga 44 (.ld none) [.t 43]),gl 0 0 (gm 45 4),gl 0 1 (ga 46 (.call 141) [.t 45]),gl 1 2 (ga 47 (.gT (some 56) [(.st 56 [(z4 54),ku,(bC 27),kx,ki,ki,(bC 27),(.s (.bool false)),(.s (.bool false))])] [0]) [.t 46]),gl 2 3 (ga 48 (.app (some 56) 96) [.t 44,.t 47]),gl 3 3 (ga 49 (.fa 59 5) [.t 5]),gl 3 4 (gn (.aY none) [.t 49,.t 48])])) (.af [ga 50 (.bin .num .add) [.t 41,kc 1],gm 41 50])))))
def QD :Go.Vm.C:=(.seq (.af [ga 2 (.eS (some 59) (.st 59 [ki,ki,ki,ku,(.st 56 [(z4 54),ku,(bC 27),(.al true none []),ki,ki,(bC 27),(.s (.bool false)),(.s (.bool false))]),(.al true (some 56) [])])) [],ga 3 .mv [kc 0]]) (.seq (.af [gm 6 0,ga 7 (.dN 199 [(.al true none []),(.s (.bool false))] [0]) [.t 6],ga 8 (.box (some 199)) [.t 7],gm 4 8]) (.seq (.af [gm 9 4,ga 10 (.call 140) [.t 9],ga 11 (.dN 59 [ki,ki,ki,ku,(.st 56 [(z4 54),ku,(bC 27),(.al true none []),ki,ki,(bC 27),(.s (.bool false)),(.s (.bool false))]),(.al true (some 56) [])] [0]) [.t 10],ga 5 (.eS (some 59) (.st 59 [ki,ki,ki,ku,(.st 56 [(z4 54),ku,(bC 27),(.al true none []),ki,ki,(bC 27),(.s (.bool false)),(.s (.bool false))]),(.al true (some 56) [])])) [],gn (.aY (some 59)) [.t 5,.t 11]]) (.seq (.seq (.af [ga 12 (.fa 59 0) [.t 5],ga 13 (.ld none) [.t 12]]) (.block 0 (.seq (.af [ga 15 (.bin .num .eql) [.t 13,kc 1],gm 14 15]) (.cond (.t 14) (.af [gm 16 4,ga 17 (.call 141) [.t 16],ga 18 (.fa 59 4) [.t 5],gn (.aY (some 56)) [.t 18,.t 17]]) (.seq (.af [ga 20 (.bin .num .eql) [.t 13,kc 2],gm 19 20]) (.cond (.t 19) (.seq (.af [gm 21 4,ga 22 (.call 140) [.t 21],gm 23 4,ga 24 (.call 140) [.t 23],ga 25 (.fa 59 1) [.t 5],gn (.aY none) [.t 25,.t 22],ga 26 (.fa 59 2) [.t 5],gn (.aY none) [.t 26,.t 24]]) (.af [gm 27 4,ga 28 (.call 142) [.t 27],ga 29 (.fa 59 3) [.t 5],gn (.aY none) [.t 29,.t 28]])) (.seq (.af [ga 31 (.bin .num .eql) [.t 13,kc 3],gm 30 31]) (.cond (.t 30) (.seq (.af [gm 32 4,ga 33 (.call 140) [.t 32],ga 34 (.fa 59 1) [.t 5],gn (.aY none) [.t 34,.t 33]]) (.seq (.af [gm 35 4,ga 36 (.call 142) [.t 35],ga 37 (.fa 59 3) [.t 5],gn (.aY none) [.t 37,.t 36]]) (.seq (.af [gm 38 4,ga 39 (.call 140) [.t 38],ga 40 .min [.t 39,kc 5],ga 41 .mv [kc 0]]) (.block 1 Iw)))) (.seq (.af [ga 52 (.bin .num .eql) [.t 13,kc 4],gm 51 52]) (.cond (.t 51) (.seq (.af [gm 53 4,ga 54 (.call 140) [.t 53],ga 55 (.fa 59 1) [.t 5],gn (.aY none) [.t 55,.t 54]]) (.af [gm 56 4,ga 57 (.call 142) [.t 56],ga 58 (.fa 59 3) [.t 5],gn (.aY none) [.t 58,.t 57]])) .skip)))))))))) (.seq (.seq (.af [gm 59 4,ga 60 (.call 143) [.t 59],gm 61 60,gw 61 false 62 (.ld (some 59)) [.t 5],gw 61 false 63 (.call 64) [.t 62],gw 61 false 64 (.un .not) [.t 63],ga 65 .pick [.t 61,kb true,.t 64]]) (.cond (.t 65) (.seq (.af [ga 66 (.dN 59 [ki,ki,ki,ku,(.st 56 [(z4 54),ku,(bC 27),(.al true none []),ki,ki,(bC 27),(.s (.bool false)),(.s (.bool false))]),(.al true (some 56) [])] []) [],gn (.aY (some 59)) [.t 2,.t 66],ga 3 .mv [kc 12]]) .ret) .skip)) (.seq (.af [ga 67 (.ld (some 59)) [.t 5],gn (.aY (some 59)) [.t 2,.t 67],ga 3 .mv [kc 0]]) .ret))))))
abbrev XK :Go.Vm.Fn:=⟨68,QD,[(.cell 2 (some 59)),(.t 3)],true⟩
theorem QE :bH Tryz.prog ob3 Tryz.f123 true=some XK:=by kernel_rfl
theorem QF :QD.fits 68=true:=by kernel_rfl
def Ix :Go.Vm.C:=(.loop (.seq (.af [ga 13 (.bin .num .lss) [.t 12,.t 11]]) (.seq (.cond (.t 13) .skip (.exit 0)) (.seq (.block 1 (.seq (.af [gm 15 0,ga 16 (.call 144) [.t 15],gm 14 16,ga 17 (.ext 0) [.t 14],ga 18 (.ext 1) [.t 14],ga 19 (.ext 2) [.t 14],ga 8 (.eS (some 56) (.st 56 [(z4 54),ku,(bC 27),kx,ki,ki,(bC 27),(.s (.bool false)),(.s (.bool false))])) [],gn (.aY (some 56)) [.t 8,.t 17],gm 9 18,gm 10 19]) (.seq (.seq (.af [gm 20 10,ga 21 (.bin .num .neq) [.t 20,kc 0]]) (.cond (.t 21) (.seq (.af [ga 4 .mv [(.c (.al true (some 56) []))],ga 5 .mv [(.c (.al true none []))],ga 6 .mv [kb false]]) .ret) .skip)) (.seq (.af [gm 22 7,ga 23 (.ld (some 56)) [.t 8],ga 24 (.gT (some 56) [(.st 56 [(z4 54),ku,(bC 27),kx,ki,ki,(bC 27),(.s (.bool false)),(.s (.bool false))])] [0]) [.t 23],ga 25 (.app (some 56) 96) [.t 22,.t 24],gm 7 25]) (.af [gm 26 0,gm 27 9,ga 28 (.j2 none true false false) [.t 26,.t 27],gm 0 28]))))) (.af [ga 29 (.bin .num .add) [.t 12,kc 1],gm 12 29])))))
def Iy :Go.Vm.C:=(.seq (.af [gm 30 7,gm 31 0,gm 4 30,gm 5 31,ga 6 .mv [kb true]]) .ret)
def QG :Go.Vm.C:=(.seq (.af [ga 4 .mv [(.c (.al true (some 56) []))],ga 5 .mv [(.c (.al true none []))],ga 6 .mv [kb false]]) (.seq (.af [ga 7 .mv [(.c (.al true (some 56) []))]]) (.seq (.seq (.af [gm 11 1,ga 12 .mv [kc 0]]) (.block 0 Ix)) Iy)))
abbrev XL :Go.Vm.Fn:=⟨32,QG,[(.t 4),(.t 5),(.t 6)],true⟩
theorem QH :bH Tryz.prog ob Tryz.f124 true=some XL:=by kernel_rfl
theorem QI :QG.fits 32=true:=by kernel_rfl
def Iz :Go.Vm.C:=(.loop (.seq (.af [ga 10 (.bin .num .lss) [.t 9,.t 8]]) (.seq (.cond (.t 10) .skip (.exit 0)) (.seq (.block 1 (.seq (.af [ga 11 (.de none) [.t 7,.t 9],ga 12 (.ld none) [.t 11],gm 5 12]) (.af [gm 13 3,ga 14 (.bin .num .shl) [.t 13,(.c (.s (.int .u64 8)))],gm 15 5,ga 16 (.gO .u64) [.t 15],ga 17 (.bin .num .or) [.t 14,.t 16],gm 3 17]))) (.af [ga 18 (.bin .num .add) [.t 9,kc 1],gm 9 18])))))
def IA :Go.Vm.C:=(.seq (.af [gm 19 3,gm 2 19]) .ret)
def QJ :Go.Vm.C:=(.seq (.af [ga 2 .mv [(.c ku)]]) (.seq (.af [ga 3 .mv [(.c ku)]]) (.seq (.seq (.af [gm 6 0,ga 7 (.j2 none false true false) [.t 6,kc 8],ga 8 .len [.t 7],ga 9 .mv [kc 0]]) (.block 0 Iz)) IA)))
abbrev XM :Go.Vm.Fn:=⟨20,QJ,[(.t 2)],true⟩
theorem QK :bH Tryz.prog ob Tryz.f125 true=some XM:=by kernel_rfl
theorem QL :QJ.fits 20=true:=by kernel_rfl
def Mh :Go.Vm.C:=(.seq (.af [ga 2 (.box (some 56)) [.t 0],ga 3 (.box (some 56)) [.t 1],ga 4 .mv [kb false]]) (.seq (.af [ga 5 (.fa 56 0) [.t 2],ga 6 (.ld (some 54)) [.t 5],ga 7 (.fa 56 0) [.t 3],ga 8 (.ld (some 54)) [.t 7],ga 9 (.ve 54 .u8 false) [.t 6,.t 8],gm 10 9,gw 10 true 11 (.fa 56 1) [.t 2],gw 10 true 12 (.ld none) [.t 11],gw 10 true 13 (.fa 56 1) [.t 3],gw 10 true 14 (.ld none) [.t 13],gw 10 true 15 (.bin .num .eql) [.t 12,.t 14],ga 16 .pick [.t 10,.t 15,kb false],gm 17 16,gw 17 true 18 (.fa 56 2) [.t 2],gw 17 true 19 (.ld (some 27)) [.t 18],gw 17 true 20 (.fa 56 2) [.t 3],gw 17 true 21 (.ld (some 27)) [.t 20],gw 17 true 22 (.ve 27 .u8 false) [.t 19,.t 21],ga 23 .pick [.t 17,.t 22,kb false],gm 24 23,gw 24 true 25 (.fa 56 3) [.t 2],gw 24 true 26 (.ld none) [.t 25],gw 24 true 27 (.fa 56 3) [.t 3],gw 24 true 28 (.ld none) [.t 27],gw 24 true 29 (.call 93) [.t 26,.t 28],ga 30 .pick [.t 24,.t 29,kb false],gm 31 30,gw 31 true 32 (.fa 56 4) [.t 2],gw 31 true 33 (.ld none) [.t 32],gw 31 true 34 (.fa 56 4) [.t 3],gw 31 true 35 (.ld none) [.t 34],gw 31 true 36 (.bin .num .eql) [.t 33,.t 35],ga 37 .pick [.t 31,.t 36,kb false],gm 38 37,gw 38 true 39 (.fa 56 5) [.t 2],gw 38 true 40 (.ld none) [.t 39],gw 38 true 41 (.fa 56 5) [.t 3],gw 38 true 42 (.ld none) [.t 41],gw 38 true 43 (.bin .num .eql) [.t 40,.t 42],ga 44 .pick [.t 38,.t 43,kb false],gm 45 44,gw 45 true 46 (.fa 56 6) [.t 2],gw 45 true 47 (.ld (some 27)) [.t 46],gw 45 true 48 (.fa 56 6) [.t 3],gw 45 true 49 (.ld (some 27)) [.t 48],gw 45 true 50 (.ve 27 .u8 false) [.t 47,.t 49],ga 51 .pick [.t 45,.t 50,kb false],gm 52 51,gw 52 true 53 (.fa 56 7) [.t 2],gw 52 true 54 (.ld none) [.t 53],gw 52 true 55 (.fa 56 7) [.t 3],gw 52 true 56 (.ld none) [.t 55],gw 52 true 57 (.bin .tru .eql) [.t 54,.t 56],ga 58 .pick [.t 52,.t 57,kb false],gm 59 58,gw 59 true 60 (.fa 56 8) [.t 2],gw 59 true 61 (.ld none) [.t 60],gw 59 true 62 (.fa 56 8) [.t 3],gw 59 true 63 (.ld none) [.t 62],gw 59 true 64 (.bin .tru .eql) [.t 61,.t 63],ga 65 .pick [.t 59,.t 64,kb false],gm 4 65]) .ret))
abbrev XN :Go.Vm.Fn:=⟨66,Mh,[(.t 4)],true⟩
theorem QM :bH Tryz.prog ob Tryz.f126 true=some XN:=by kernel_rfl
theorem QN :Mh.fits 66=true:=by kernel_rfl
def IB :Go.Vm.C:=(.loop (.seq (.af [ga 9 (.bin .num .lss) [.t 8,.t 7]]) (.seq (.cond (.t 9) .skip (.exit 0)) (.seq (.block 1 (.seq (.af [gm 10 8,gm 5 10]) (.seq (.af [gm 11 1,gm 12 0,gm 13 5,ga 14 (.de (some 56)) [.t 12,.t 13],ga 15 (.ld (some 56)) [.t 14],ga 16 .mW [.t 11,.t 15]]) (.cond (.t 16) (.seq (.af [gm 17 5,gm 4 17]) .ret) .skip)))) (.af [ga 18 (.bin .num .add) [.t 8,kc 1],gm 8 18])))))
def IC :Go.Vm.C:=(.seq (.af [ga 4 .mv [kc (-1)]]) .ret)
def QO :Go.Vm.C:=(.seq (.af [ga 4 .mv [kc 0]]) (.seq (.seq (.af [gm 6 0,ga 7 .len [.t 6],ga 8 .mv [kc 0]]) (.block 0 IB)) IC))
abbrev XO :Go.Vm.Fn:=⟨19,QO,[(.t 4)],true⟩
theorem QP :bH Tryz.prog ob Tryz.f127 true=some XO:=by kernel_rfl
theorem QQ :QO.fits 19=true:=by kernel_rfl
def AR :Go.Vm.C:=(.loop (.seq (.seq (.af [gm 13 7,ga 14 .len [.t 13],gm 15 2,ga 16 (.bin .num .lss) [.t 14,.t 15]]) (.cond (.t 16) .skip (.exit 0))) (.seq (.block 1 (.seq (.bL [gl 0 3 (ga 19 (.ld (some 27)) [.t 3]),gl 0 0 (gm 20 1),gl 0 1 (ga 21 (.call 44) [.t 20]),gl 0 1 (gm 22 8),gl 1 2 (ga 23 (.call 44) [.t 22]),gl 2 3 (ga 24 (.app none 1) [.t 21,.t 23]),gl 3 3 (ga 25 (.mA 51) [.t 19,.t 24]),gl 0 3 (gn .nop []),gl 3 3 (ga 9 (.fzp (some 27)) [.t 25])]) (.af [gm 26 7,ga 27 (.nU 27 none false false) [.t 9],ga 28 (.app none 1) [.t 26,.t 27],gm 7 28]))) (.af [gm 17 8,ga 18 (.bin .num .add) [.t 17,(.c (.s (.int .u64 1)))],gm 8 18]))))
def AS :Go.Vm.C:=(.seq (.af [gm 29 7,gm 30 2,ga 31 (.j2 none false true false) [.t 29,.t 30],ga 32 (.call 87) [.t 31],gm 6 32]) .ret)
def Mi :Go.Vm.C:=(.seq (.af [ga 3 (.box (some 27)) [.t 0],ga 6 .mv [(.c (.al true none []))]]) (.seq (.af [gm 10 2,ga 11 .min [.t 10,kc 8192],ga 12 .max [kc 0,.t 11],gm 2 12]) (.seq (.af [ga 7 .mv [(.c (.al true none []))]]) (.seq (.seq (.af [ga 8 .mv [(.c ku)]]) (.block 0 AR)) AS))))
abbrev XP :Go.Vm.Fn:=⟨33,Mi,[(.t 6)],false⟩
theorem QR :bH Tryz.prog ob Tryz.f128 false=some XP:=by kernel_rfl
theorem QS :Mi.fits 33=true:=by kernel_rfl
def Mj :Go.Vm.C:=(.seq (.af [ga 4 .mv [(.c (.s (.int .u32 0)))]]) (.seq (.af [gm 6 1,ga 7 (.gO .u64) [.t 6],ga 8 (.bin .num .and) [.t 7,(.c (.s (.int .u64 31)))],gm 5 8]) (.seq (.af [gm 9 0,gm 10 5,ga 11 (.bin .num .shl) [.t 9,.t 10],gm 12 0,gm 13 5,ga 14 (.bin .num .sub) [(.c (.s (.int .u64 32))),.t 13],ga 15 (.bin .num .shr) [.t 12,.t 14],ga 16 (.bin .num .or) [.t 11,.t 15],gm 4 16]) .ret)))
abbrev QT :Go.Vm.Fn:=⟨17,Mj,[(.t 4)],true⟩
theorem ID :bH Tryz.prog ob Tryz.f129 true=some QT:=by kernel_rfl
theorem QU :Mj.fits 17=true:=by kernel_rfl
def AT :Go.Vm.C:=(.loop (.seq (.seq (.af [gm 15 9,gm 16 10,ga 17 (.bin .num .lss) [.t 15,.t 16]]) (.cond (.t 17) .skip (.exit 0))) (.block 1 (.seq (.af [gm 18 9,gm 19 10,ga 20 (.bin .num .add) [.t 18,.t 19],ga 21 (.gO .u64) [.t 20],ga 22 (.bin .num .shr) [.t 21,(.c (.s (.int .u64 1)))],ga 23 (.gO .i64) [.t 22],gm 11 23]) (.seq (.af [gm 24 2,gm 25 0,gm 26 11,ga 27 (.de (some 56)) [.t 25,.t 26],ga 28 (.ld (some 56)) [.t 27],ga 29 (.ld (some 54)) [.t 4],ga 30 .mW [.t 24,.t 28,.t 29],ga 31 (.bin .num .lss) [.t 30,kc 0]]) (.cond (.t 31) (.af [gm 32 11,ga 33 (.bin .num .add) [.t 32,kc 1],gm 9 33]) (.af [gm 34 11,gm 10 34])))))))
def AU :Go.Vm.C:=(.seq (.af [gm 35 9,gm 36 9,gm 37 8,ga 38 (.bin .num .lss) [.t 36,.t 37],gm 39 38,gw 39 true 40 .mv [.t 2],gw 39 true 41 .mv [.t 0],gw 39 true 42 .mv [.t 9],gw 39 true 43 (.de (some 56)) [.t 41,.t 42],gw 39 true 44 (.ld (some 56)) [.t 43],gw 39 true 45 (.ld (some 54)) [.t 4],gw 39 true 46 .mW [.t 40,.t 44,.t 45],gw 39 true 47 (.bin .num .eql) [.t 46,kc 0],ga 48 .pick [.t 39,.t 47,kb false],gm 6 35,gm 7 48]) .ret)
def Mk :Go.Vm.C:=(.seq (.af [ga 4 (.box (some 54)) [.t 1],ga 6 .mv [kc 0],ga 7 .mv [kb false]]) (.seq (.af [gm 12 0,ga 13 .len [.t 12],gm 8 13]) (.seq (.af [gm 14 8,ga 9 .mv [kc 0],gm 10 14]) (.seq (.block 0 AT) AU))))
abbrev XQ :Go.Vm.Fn:=⟨49,Mk,[(.t 6),(.t 7)],true⟩
theorem QV :bH Tryz.prog ob Tryz.f130 true=some XQ:=by kernel_rfl
theorem QW :Mk.fits 49=true:=by kernel_rfl
def Ml :Go.Vm.C:=(.seq (.af [ga 2 (.box (some 56)) [.t 0],ga 3 (.box (some 54)) [.t 1],ga 4 .mv [kc 0]]) (.seq (.af [ga 5 (.fa 56 0) [.t 2],ga 6 (.nU 54 none false false) [.t 5],ga 7 (.nU 54 none false false) [.t 3],ga 8 (.call 111) [.t 6,.t 7],gm 4 8]) .ret))
abbrev XS :Go.Vm.Fn:=⟨9,Ml,[(.t 4)],true⟩
theorem QX :bH Tryz.prog ob Tryz.f131 true=some XS:=by kernel_rfl
theorem QY :Ml.fits 9=true:=by kernel_rfl
def aaQ :Go.Vm.C:=(.af [gm 4 0,gm 5 0,ga 6 .len [.t 5],gm 7 1,ga 8 (.bin .num .sub) [.t 6,.t 7],ga 9 (.call 145) [.t 4,.t 8]])
abbrev XU :Go.Vm.Fn:=⟨10,aaQ,[],true⟩
theorem QZ :bH Tryz.prog ob Tryz.f133 true=some XU:=by kernel_rfl
def AV :Go.Vm.C:=(.loop (.seq (.seq (.af [gm 5 1,ga 6 (.bin .num .gtr) [.t 5,kc 0]]) (.cond (.t 6) .skip (.exit 0))) (.seq (.block 1 (.af [gm 9 0,ga 10 (.bin .num .shl) [.t 9,(.c (.s (.int .u64 1)))],gm 11 0,ga 12 (.bin .num .shr) [.t 11,(.c (.s (.int .u64 31)))],ga 13 (.bin .num .or) [.t 10,.t 12],gm 0 13])) (.af [gm 7 1,ga 8 (.bin .num .sub) [.t 7,kc 1],gm 1 8]))))
def AW :Go.Vm.C:=(.seq (.af [gm 14 0,gm 4 14]) .ret)
def Mm :Go.Vm.C:=(.seq (.af [ga 4 .mv [(.c (.s (.int .u32 0)))]]) (.seq (.block 0 AV) AW))
abbrev XV :Go.Vm.Fn:=⟨15,Mm,[(.t 4)],true⟩
theorem Q0 :bH Tryz.prog ob Tryz.f135 true=some XV:=by kernel_rfl
theorem Q1 :Mm.fits 15=true:=by kernel_rfl
def Q2 :Go.Vm.C:=(.seq (.af [ga 2 (.box (some 56)) [.t 0],ga 3 .mv [kb false]]) (.seq (.bL [gl 0 0 (ga 4 (.fa 56 0) [.t 2]),gl 0 0 (ga 5 (.ld (some 54)) [.t 4]),gl 0 1 (ga 6 (.call 74) [.t 5]),gl 0 1 (ga 7 (.ld none) [.t 1]),gl 1 1 (ga 8 (.bin .num .neq) [.t 6,.t 7]),gl 1 1 (gm 3 8)]) .ret))
abbrev XW :Go.Vm.Fn:=⟨9,Q2,[(.t 3)],true⟩
theorem Q3 :bH Tryz.prog ob Tryz.f136 true=some XW:=by kernel_rfl
theorem Q4 :Q2.fits 9=true:=by kernel_rfl
def Mn :Go.Vm.C:=(.seq (.af [ga 4 .mv [(.c (.al true none []))]]) (.seq (.seq (.af [gm 5 1,ga 6 (.bin .num .lss) [.t 5,kc 0]]) (.cond (.t 6) (.af [ga 7 (.mki 9) [(.c (.s (.string ⟨#[99,97,110,110,111,116,32,98,101,32,110,101,103,97,116,105,118,101]⟩)))],gn .bad []]) .skip)) (.seq (.seq (.af [gm 8 1,gm 9 0,ga 10 .cap [.t 9],gm 11 0,ga 12 .len [.t 11],ga 13 (.bin .num .sub) [.t 10,.t 12],ga 14 (.bin .num .sub) [.t 8,.t 13],gm 1 14]) (.seq (.af [gm 15 1,ga 16 (.bin .num .gtr) [.t 15,kc 0]]) (.cond (.t 16) (.af [gm 17 0,gm 18 0,ga 19 .cap [.t 18],ga 20 (.j2 none false true false) [.t 17,.t 19],gm 21 1,ga 22 (.apz none 1 (.s (.int .u8 0))) [.t 20,.t 21],gm 23 0,ga 24 .len [.t 23],ga 25 (.j2 none false true false) [.t 22,.t 24],gm 0 25]) .skip))) (.seq (.af [gm 26 0,gm 4 26]) .ret))))
abbrev XX :Go.Vm.Fn:=⟨27,Mn,[(.t 4)],false⟩
theorem Q5 :bH Tryz.prog ob Tryz.f137 false=some XX:=by kernel_rfl
theorem Q6 :Mn.fits 27=true:=by kernel_rfl
def Q7 :Go.Vm.C:=(.seq (.af [ga 2 (.box (some 27)) [.t 0],ga 4 (.eS (some 27) (bC 27)) []]) (.seq (.af [ga 5 (.gT none [] []) [],ga 6 (.nU 27 none false false) [.t 2],ga 7 (.app none 1) [.t 5,.t 6],gm 8 1,ga 9 (.app none 1) [.t 7,.t 8],ga 10 (.call 80) [.t 9],gn (.aY (some 27)) [.t 4,.t 10]]) .ret))
abbrev XY :Go.Vm.Fn:=⟨11,Q7,[(.cell 4 (some 27))],true⟩
theorem Q8 :bH Tryz.prog ob Tryz.f138 true=some XY:=by kernel_rfl
theorem Q9 :Q7.fits 11=true:=by kernel_rfl
def Ra :Go.Vm.C:=(.seq (.af [ga 4 .mv [kb false]]) (.seq (.af [gm 5 0,gm 6 1,ga 7 (.call 93) [.t 5,.t 6],gm 4 7]) .ret))
abbrev XZ :Go.Vm.Fn:=⟨8,Ra,[(.t 4)],true⟩
theorem Rb :bH Tryz.prog ob Tryz.f139 true=some XZ:=by kernel_rfl
theorem Rc :Ra.fits 8=true:=by kernel_rfl
def Re :Go.Vm.C:=(.seq (.af [ga 2 .mv [kc 0]]) (.seq (.af [gm 3 0,ga 4 (.call 146) [.t 3,kc 1],ga 5 (.de none) [.t 4,kc 0],ga 6 (.ld none) [.t 5],ga 7 (.gO .i64) [.t 6],gm 2 7]) .ret))
abbrev X1 :Go.Vm.Fn:=⟨8,Re,[(.t 2)],true⟩
theorem Rf :bH Tryz.prog ob Tryz.f140 true=some X1:=by kernel_rfl
theorem Rg :Re.fits 8=true:=by kernel_rfl
def Rh :Go.Vm.C:=(.seq (.af [ga 2 (.eS (some 56) (.st 56 [(z4 54),ku,(bC 27),kx,ki,ki,(bC 27),(.s (.bool false)),(.s (.bool false))])) []]) (.seq (.af [gm 5 0,ga 6 (.call 147) [.t 5],gm 7 0,ga 8 (.call 142) [.t 7],ga 9 (.dN 56 [(z4 54),ku,(bC 27),kx,ki,ki,(bC 27),(.s (.bool false)),(.s (.bool false))] [0,1]) [.t 6,.t 8],ga 3 (.eS (some 56) (.st 56 [(z4 54),ku,(bC 27),kx,ki,ki,(bC 27),(.s (.bool false)),(.s (.bool false))])) [],gn (.aY (some 56)) [.t 3,.t 9]]) (.seq (.af [gm 10 0,ga 11 (.call 140) [.t 10],gm 4 11]) (.seq (.af [gm 12 4,ga 13 (.bin .num .neq) [.t 12,kc 0],gm 14 4,ga 15 (.bin .num .eql) [.t 14,kc 3],ga 16 (.fa 56 7) [.t 3],gn (.aY none) [.t 16,.t 13],ga 17 (.fa 56 8) [.t 3],gn (.aY none) [.t 17,.t 15]]) (.seq (.af [gm 18 0,gm 19 0,ga 20 .aU [.t 19],ga 21 (.fa 199 1) [.t 20],ga 22 (.ld none) [.t 21],gm 23 22,gw 23 false 24 .mv [.t 4],gw 23 false 25 (.bin .num .neq) [.t 24,kc 0],gw 23 false 26 .mv [.t 25],gw 26 true 27 .mv [.t 4],gw 26 true 28 (.bin .num .neq) [.t 27,kc 1],gw 23 false 29 .pick [.t 26,.t 28,kb false],gw 23 false 30 .mv [.t 29],gw 30 true 31 .mv [.t 4],gw 30 true 32 (.bin .num .neq) [.t 31,kc 3],gw 23 false 33 .pick [.t 30,.t 32,kb false],ga 34 .pick [.t 23,kb true,.t 33],ga 35 .aU [.t 18],ga 36 (.fa 199 1) [.t 35],gn (.aY none) [.t 36,.t 34]]) (.seq (.af [gm 37 0,ga 38 (.call 140) [.t 37],gm 39 0,ga 40 (.call 140) [.t 39],ga 41 (.fa 56 4) [.t 3],gn (.aY none) [.t 41,.t 38],ga 42 (.fa 56 5) [.t 3],gn (.aY none) [.t 42,.t 40]]) (.seq (.af [gm 43 0,ga 44 (.call 148) [.t 43],gm 45 0,ga 46 (.call 148) [.t 45],ga 47 (.fa 56 2) [.t 3],gn (.aY (some 27)) [.t 47,.t 44],ga 48 (.fa 56 6) [.t 3],gn (.aY (some 27)) [.t 48,.t 46]]) (.seq (.af [gm 49 0,ga 50 (.call 149) [.t 49],ga 51 (.fa 56 3) [.t 3],gn (.aY none) [.t 51,.t 50]]) (.seq (.af [gm 52 0,gm 53 0,ga 54 .aU [.t 53],ga 55 (.fa 199 1) [.t 54],ga 56 (.ld none) [.t 55],gm 57 56,gw 57 false 58 (.ld (some 56)) [.t 3],gw 57 false 59 (.call 84) [.t 58],gw 57 false 60 (.un .not) [.t 59],ga 61 .pick [.t 57,kb true,.t 60],ga 62 .aU [.t 52],ga 63 (.fa 199 1) [.t 62],gn (.aY none) [.t 63,.t 61]]) (.seq (.af [ga 64 (.ld (some 56)) [.t 3],gn (.aY (some 56)) [.t 2,.t 64]]) .ret))))))))))
abbrev X2 :Go.Vm.Fn:=⟨65,Rh,[(.cell 2 (some 56))],true⟩
theorem Ri :bH Tryz.prog ob Tryz.f141 true=some X2:=by kernel_rfl
theorem Rj :Rh.fits 65=true:=by kernel_rfl
def IE :Go.Vm.C:=(.loop (.seq (.af [ga 10 (.bin .num .lss) [.t 9,.t 8]]) (.seq (.cond (.t 10) .skip (.exit 0)) (.seq (.block 1 (.seq (.af [ga 11 (.de none) [.t 7,.t 9],ga 12 (.ld none) [.t 11],gm 5 12]) (.af [gm 13 3,ga 14 (.bin .num .shl) [.t 13,(.c (.s (.int .u64 8)))],gm 15 5,ga 16 (.gO .u64) [.t 15],ga 17 (.bin .num .or) [.t 14,.t 16],gm 3 17]))) (.af [ga 18 (.bin .num .add) [.t 9,kc 1],gm 9 18])))))
def IF :Go.Vm.C:=(.seq (.af [gm 19 3,gm 2 19]) .ret)
def Rk :Go.Vm.C:=(.seq (.af [ga 2 .mv [(.c ku)]]) (.seq (.af [ga 3 .mv [(.c ku)]]) (.seq (.seq (.af [gm 6 0,ga 7 (.call 146) [.t 6,kc 8],ga 8 .len [.t 7],ga 9 .mv [kc 0]]) (.block 0 IE)) IF)))
abbrev X3 :Go.Vm.Fn:=⟨20,Rk,[(.t 2)],true⟩
theorem Rl :bH Tryz.prog ob Tryz.f142 true=some X3:=by kernel_rfl
theorem Rm :Rk.fits 20=true:=by kernel_rfl
def IG :Go.Vm.C:=(.seq (.af [ga 2 .mv [kb false]]) (.seq (.af [gm 3 0,ga 4 .aU [.t 3],ga 5 (.fa 199 1) [.t 4],ga 6 (.ld none) [.t 5],gm 7 6,gw 7 false 8 .mv [.t 0],gw 7 false 9 .aU [.t 8],gw 7 false 10 (.fa 199 0) [.t 9],gw 7 false 11 (.ld none) [.t 10],gw 7 false 12 .len [.t 11],gw 7 false 13 (.bin .num .gtr) [.t 12,kc 0],ga 14 .pick [.t 7,kb true,.t 13],gm 2 14]) .ret))
abbrev X4 :Go.Vm.Fn:=⟨15,IG,[(.t 2)],true⟩
theorem Rn :bH Tryz.prog ob Tryz.f143 true=some X4:=by kernel_rfl
theorem Ro :IG.fits 15=true:=by kernel_rfl
def Rp :Go.Vm.C:=(.seq (.af [ga 2 (.eS (some 56) (.st 56 [(z4 54),ku,(bC 27),kx,ki,ki,(bC 27),(.s (.bool false)),(.s (.bool false))])) [],ga 3 .mv [kc 0],ga 4 .mv [kc 0]]) (.seq (.af [gm 7 0,ga 8 (.dN 199 [(.al true none []),(.s (.bool false))] [0]) [.t 7],ga 9 (.box (some 199)) [.t 8],gm 5 9]) (.seq (.af [gm 10 5,ga 11 (.call 141) [.t 10],ga 6 (.eS (some 56) (.st 56 [(z4 54),ku,(bC 27),kx,ki,ki,(bC 27),(.s (.bool false)),(.s (.bool false))])) [],gn (.aY (some 56)) [.t 6,.t 11]]) (.seq (.seq (.af [gm 12 5,ga 13 .aU [.t 12],ga 14 (.fa 199 1) [.t 13],ga 15 (.ld none) [.t 14]]) (.cond (.t 15) (.seq (.af [ga 16 (.dN 56 [(z4 54),ku,(bC 27),kx,ki,ki,(bC 27),(.s (.bool false)),(.s (.bool false))] []) [],gn (.aY (some 56)) [.t 2,.t 16],ga 3 .mv [kc 0],ga 4 .mv [kc 12]]) .ret) .skip)) (.seq (.bL [gl 0 0 (ga 17 (.ld (some 56)) [.t 6]),gl 0 1 (gm 18 0),gl 0 1 (ga 19 .len [.t 18]),gl 0 1 (gm 20 5),gl 0 1 (ga 21 .aU [.t 20]),gl 0 1 (ga 22 (.fa 199 0) [.t 21]),gl 0 1 (ga 23 (.ld none) [.t 22]),gl 0 1 (ga 24 .len [.t 23]),gl 0 1 (ga 25 (.bin .num .sub) [.t 19,.t 24]),gl 0 1 (gn (.aY (some 56)) [.t 2,.t 17]),gl 1 1 (gm 3 25),gl 1 1 (ga 4 .mv [kc 0])]) .ret)))))
abbrev X5 :Go.Vm.Fn:=⟨26,Rp,[(.cell 2 (some 56)),(.t 3),(.t 4)],true⟩
theorem Rq :bH Tryz.prog ob Tryz.f144 true=some X5:=by kernel_rfl
theorem Rr :Rp.fits 26=true:=by kernel_rfl
def aaR :Go.Vm.C:=(.seq (.af [gm 4 0,gm 5 1,ga 6 (.j2 (some 56) false true false) [.t 4,.t 5],ga 7 (.call 150) [.t 6]]) (.seq (.af [gm 8 0,gm 9 1,ga 10 (.j2 (some 56) true false false) [.t 8,.t 9],ga 11 (.call 150) [.t 10]]) (.af [gm 12 0,ga 13 (.call 150) [.t 12]])))
abbrev X6 :Go.Vm.Fn:=⟨14,aaR,[],true⟩
theorem Rt :bH Tryz.prog ob Tryz.f145 true=some X6:=by kernel_rfl
def Mo :Go.Vm.C:=(.seq (.af [ga 4 .mv [(.c (.al true none []))]]) (.seq (.seq (.af [gm 6 0,ga 7 .aU [.t 6],ga 8 (.fa 199 0) [.t 7],ga 9 (.ld none) [.t 8],ga 10 .len [.t 9],gm 11 1,ga 12 (.bin .num .lss) [.t 10,.t 11]]) (.cond (.t 12) (.seq (.af [gm 13 0,gm 14 0,ga 15 .aU [.t 13],ga 16 (.fa 199 0) [.t 15],gn (.aY none) [.t 16,(.c (.al true none []))],ga 17 .aU [.t 14],ga 18 (.fa 199 1) [.t 17],gn (.aY none) [.t 18,kb true]]) (.seq (.af [gm 19 1,ga 20 (.mks none (.s (.int .u8 0))) [.t 19,.t 19],gm 4 20]) .ret)) .skip)) (.seq (.af [gm 21 0,ga 22 .aU [.t 21],ga 23 (.fa 199 0) [.t 22],ga 24 (.ld none) [.t 23],gm 25 1,ga 26 (.j2 none false true false) [.t 24,.t 25],gm 5 26]) (.seq (.af [gm 27 0,gm 28 0,ga 29 .aU [.t 28],ga 30 (.fa 199 0) [.t 29],ga 31 (.ld none) [.t 30],gm 32 1,ga 33 (.j2 none true false false) [.t 31,.t 32],ga 34 .aU [.t 27],ga 35 (.fa 199 0) [.t 34],gn (.aY none) [.t 35,.t 33]]) (.seq (.af [gm 36 5,gm 4 36]) .ret)))))
abbrev X7 :Go.Vm.Fn:=⟨37,Mo,[(.t 4)],true⟩
theorem Ru :bH Tryz.prog ob Tryz.f146 true=some X7:=by kernel_rfl
theorem IH :Mo.fits 37=true:=by kernel_rfl
def Rv :Go.Vm.C:=(.seq (.af [ga 2 (.eS (some 54) (z4 54)) []]) (.seq (.af [gm 3 0,ga 4 (.call 146) [.t 3,kc 4],ga 5 (.s2a 54 none 4) [.t 4],ga 6 (.ld (some 54)) [.t 5],gn (.aY (some 54)) [.t 2,.t 6]]) .ret))
abbrev X8 :Go.Vm.Fn:=⟨7,Rv,[(.cell 2 (some 54))],true⟩
theorem Rw :bH Tryz.prog ob Tryz.f147 true=some X8:=by kernel_rfl
theorem Rx :Rv.fits 7=true:=by kernel_rfl
def Ry :Go.Vm.C:=(.seq (.af [ga 2 (.eS (some 27) (bC 27)) []]) (.seq (.af [gm 3 0,ga 4 (.call 146) [.t 3,kc 16],ga 5 (.s2a 27 none 16) [.t 4],ga 6 (.ld (some 27)) [.t 5],gn (.aY (some 27)) [.t 2,.t 6]]) .ret))
abbrev X9 :Go.Vm.Fn:=⟨7,Ry,[(.cell 2 (some 27))],true⟩
theorem Rz :bH Tryz.prog ob Tryz.f148 true=some X9:=by kernel_rfl
theorem RA :Ry.fits 7=true:=by kernel_rfl
def RB :Go.Vm.C:=(.seq (.af [ga 2 .mv [(.c (.al true none []))]]) (.seq (.af [gm 3 0,gm 4 0,ga 5 (.call 140) [.t 4],ga 6 (.call 146) [.t 3,.t 5],ga 7 (.call 87) [.t 6],gm 2 7]) .ret))
abbrev Ya :Go.Vm.Fn:=⟨8,RB,[(.t 2)],true⟩
theorem RD :bH Tryz.prog ob Tryz.f149 true=some Ya:=by kernel_rfl
theorem RE :RB.fits 8=true:=by kernel_rfl
def RG :Go.Vm.C:=(.loop (.seq (.seq (.af [gm 7 2,gm 8 3,ga 9 (.bin .num .lss) [.t 7,.t 8]]) (.cond (.t 9) .skip (.exit 0))) (.seq (.block 1 (.af [gm 14 0,gm 15 2,gm 16 0,gm 17 3,gm 18 0,gm 19 3,ga 20 (.de (some 56)) [.t 18,.t 19],ga 21 (.ld (some 56)) [.t 20],gm 22 0,gm 23 2,ga 24 (.de (some 56)) [.t 22,.t 23],ga 25 (.ld (some 56)) [.t 24],ga 26 (.de (some 56)) [.t 14,.t 15],gn (.aY (some 56)) [.t 26,.t 21],ga 27 (.de (some 56)) [.t 16,.t 17],gn (.aY (some 56)) [.t 27,.t 25]])) (.af [gm 10 2,ga 11 (.bin .num .add) [.t 10,kc 1],gm 12 3,ga 13 (.bin .num .sub) [.t 12,kc 1],gm 2 11,gm 3 13]))))
def aaS :Go.Vm.C:=(.seq (.af [gm 4 0,ga 5 .len [.t 4],ga 6 (.bin .num .sub) [.t 5,kc 1],ga 2 .mv [kc 0],gm 3 6]) (.block 0 RG))
abbrev Yb :Go.Vm.Fn:=⟨28,aaS,[],true⟩
theorem RH :bH Tryz.prog ob Tryz.f150 true=some Yb:=by kernel_rfl
theorem o4 :(ak Tryz.prog).OK:=II (by kernel_rfl)
def IJ :Nat→Option Go.Vm.Fn:=fun
 | 3=> some F3
 | 4=> some F4
 | 5=> some F5
 | 6=> some F6
 | 7=> some F7
 | 8=> some F8
 | 9=> some F9
 | 10=> some F10
 | 11=> some F11
 | 12=> some F12
 | 13=> some F13
 | 14=> some F14
 | 15=> some F15
 | 16=> some F16
 | 17=> some F17
 | 18=> some F18
 | 19=> some F19
 | 20=> some F20
 | 21=> some F21
 | 22=> some F22
 | 23=> some F23
 | 24=> some F24
 | 25=> some F25
 | 26=> some F26
 | 27=> some F27
 | 28=> some F28
 | 29=> some F29
 | 30=> some F30
 | 31=> some F31
 | 32=> some F32
 | 33=> some F33
 | 34=> some F34
 | 35=> some F35
 | 36=> some F36
 | 37=> some F37
 | 38=> some F38
 | 39=> some F39
 | 40=> some F40
 | 41=> some F41
 | 42=> some F42
 | 43=> some F43
 | 44=> some F44
 | 45=> some F45
 | 46=> some F46
 | 47=> some F47
 | _=> none
theorem IK :rz Tryz.prog IJ:=by
 intro f F hf
 unfold IJ at hf
 split at hf
 ·cases hf;exact ⟨_,_,Tryz.func3,aaC⟩
 ·cases hf;exact ⟨_,_,Tryz.func4,aaE⟩
 ·cases hf;exact ⟨_,_,Tryz.func5,aaG⟩
 ·cases hf;exact ⟨_,_,Tryz.func6,aaI⟩
 ·cases hf;exact ⟨_,_,Tryz.func7,aaK⟩
 ·cases hf;exact ⟨_,_,Tryz.func8,aaM⟩
 ·cases hf;exact ⟨_,_,Tryz.func9,aaO⟩
 ·cases hf;exact ⟨_,_,Tryz.func10,Uv⟩
 ·cases hf;exact ⟨_,_,Tryz.func11,Ux⟩
 ·cases hf;exact ⟨_,_,Tryz.func12,Uz⟩
 ·cases hf;exact ⟨_,_,Tryz.func13,UB⟩
 ·cases hf;exact ⟨_,_,Tryz.func14,UD⟩
 ·cases hf;exact ⟨_,_,Tryz.func15,UF⟩
 ·cases hf;exact ⟨_,_,Tryz.func16,UH⟩
 ·cases hf;exact ⟨_,_,Tryz.func17,UJ⟩
 ·cases hf;exact ⟨_,_,Tryz.func18,UL⟩
 ·cases hf;exact ⟨_,_,Tryz.func19,UN⟩
 ·cases hf;exact ⟨_,_,Tryz.func20,UP⟩
 ·cases hf;exact ⟨_,_,Tryz.func21,UR⟩
 ·cases hf;exact ⟨_,_,Tryz.func22,UT⟩
 ·cases hf;exact ⟨_,_,Tryz.func23,UW⟩
 ·cases hf;exact ⟨_,_,Tryz.func24,UY⟩
 ·cases hf;exact ⟨_,_,Tryz.func25,U0⟩
 ·cases hf;exact ⟨_,_,Tryz.func26,U2⟩
 ·cases hf;exact ⟨_,_,Tryz.func27,U4⟩
 ·cases hf;exact ⟨_,_,Tryz.func28,U6⟩
 ·cases hf;exact ⟨_,_,Tryz.func29,U8⟩
 ·cases hf;exact ⟨_,_,Tryz.func30,Va⟩
 ·cases hf;exact ⟨_,_,Tryz.func31,Vc⟩
 ·cases hf;exact ⟨_,_,Tryz.func32,Ve⟩
 ·cases hf;exact ⟨_,_,Tryz.func33,Vg⟩
 ·cases hf;exact ⟨_,_,Tryz.func34,Vi⟩
 ·cases hf;exact ⟨_,_,Tryz.func35,Vk⟩
 ·cases hf;exact ⟨_,_,Tryz.func36,Vn⟩
 ·cases hf;exact ⟨_,_,Tryz.func37,Vp⟩
 ·cases hf;exact ⟨_,_,Tryz.func38,Vr⟩
 ·cases hf;exact ⟨_,_,Tryz.func39,Vt⟩
 ·cases hf;exact ⟨_,_,Tryz.func40,Vv⟩
 ·cases hf;exact ⟨_,_,Tryz.func41,Vx⟩
 ·cases hf;exact ⟨_,_,Tryz.func42,Vz⟩
 ·cases hf;exact ⟨_,_,Tryz.func43,VB⟩
 ·cases hf;exact ⟨_,_,Tryz.func44,VD⟩
 ·cases hf;exact ⟨_,_,Tryz.func45,VF⟩
 ·cases hf;exact ⟨_,_,Tryz.func46,VH⟩
 ·cases hf;exact ⟨_,_,Tryz.func47,VJ⟩
 ·cases hf
def IL :Nat→Option Go.Vm.Fn:=fun
 | 48=> some F48
 | 49=> some F49
 | 50=> some F50
 | 51=> some F51
 | 52=> some F52
 | 53=> some F53
 | 54=> some F54
 | 55=> some F55
 | 56=> some F56
 | 57=> some F57
 | 58=> some F58
 | 59=> some F59
 | 60=> some F60
 | 61=> some F61
 | 62=> some F62
 | 63=> some F63
 | 64=> some F64
 | 65=> some F65
 | 66=> some F66
 | 67=> some F67
 | 68=> some F68
 | 69=> some F69
 | 70=> some F70
 | 72=> some F72
 | 73=> some F73
 | 74=> some F74
 | 75=> some F75
 | 76=> some F76
 | 77=> some F77
 | 78=> some F78
 | 79=> some F79
 | 80=> some F80
 | 81=> some F81
 | 82=> some F82
 | 83=> some F83
 | 84=> some F84
 | 85=> some F85
 | 86=> some F86
 | 88=> some F88
 | 89=> some F89
 | 90=> some F90
 | 91=> some F91
 | 92=> some F92
 | 93=> some F93
 | 94=> some F94
 | _=> none
theorem IM :rz Tryz.prog IL:=by
 intro f F hf
 unfold IL at hf
 split at hf
 ·cases hf;exact ⟨_,_,Tryz.func48,VL⟩
 ·cases hf;exact ⟨_,_,Tryz.func49,VN⟩
 ·cases hf;exact ⟨_,_,Tryz.func50,VP⟩
 ·cases hf;exact ⟨_,_,Tryz.func51,VR⟩
 ·cases hf;exact ⟨_,_,Tryz.func52,VU⟩
 ·cases hf;exact ⟨_,_,Tryz.func53,VW⟩
 ·cases hf;exact ⟨_,_,Tryz.func54,VY⟩
 ·cases hf;exact ⟨_,_,Tryz.func55,V0⟩
 ·cases hf;exact ⟨_,_,Tryz.func56,V2⟩
 ·cases hf;exact ⟨_,_,Tryz.func57,V4⟩
 ·cases hf;exact ⟨_,_,Tryz.func58,V6⟩
 ·cases hf;exact ⟨_,_,Tryz.func59,V8⟩
 ·cases hf;exact ⟨_,_,Tryz.func60,Wa⟩
 ·cases hf;exact ⟨_,_,Tryz.func61,Wc⟩
 ·cases hf;exact ⟨_,_,Tryz.func62,We⟩
 ·cases hf;exact ⟨_,_,Tryz.func63,Wg⟩
 ·cases hf;exact ⟨_,_,Tryz.func64,Wi⟩
 ·cases hf;exact ⟨_,_,Tryz.func65,Wk⟩
 ·cases hf;exact ⟨_,_,Tryz.func66,Wm⟩
 ·cases hf;exact ⟨_,_,Tryz.func67,Wo⟩
 ·cases hf;exact ⟨_,_,Tryz.func68,Wq⟩
 ·cases hf;exact ⟨_,_,Tryz.func69,Ws⟩
 ·cases hf;exact ⟨_,_,Tryz.func70,Wu⟩
 ·cases hf;exact ⟨_,_,Tryz.func72,Wy⟩
 ·cases hf;exact ⟨_,_,Tryz.func73,WA⟩
 ·cases hf;exact ⟨_,_,Tryz.func74,WC⟩
 ·cases hf;exact ⟨_,_,Tryz.func75,WE⟩
 ·cases hf;exact ⟨_,_,Tryz.func76,WG⟩
 ·cases hf;exact ⟨_,_,Tryz.func77,WI⟩
 ·cases hf;exact ⟨_,_,Tryz.func78,WK⟩
 ·cases hf;exact ⟨_,_,Tryz.func79,WM⟩
 ·cases hf;exact ⟨_,_,Tryz.func80,WO⟩
 ·cases hf;exact ⟨_,_,Tryz.func81,WR⟩
 ·cases hf;exact ⟨_,_,Tryz.func82,WT⟩
 ·cases hf;exact ⟨_,_,Tryz.func83,WV⟩
 ·cases hf;exact ⟨_,_,Tryz.func84,WX⟩
 ·cases hf;exact ⟨_,_,Tryz.func85,WY⟩
 ·cases hf;exact ⟨_,_,Tryz.func86,W0⟩
 ·cases hf;exact ⟨_,_,Tryz.func88,W3⟩
 ·cases hf;exact ⟨_,_,Tryz.func89,W5⟩
 ·cases hf;exact ⟨_,_,Tryz.func90,W7⟩
 ·cases hf;exact ⟨_,_,Tryz.func91,W9⟩
 ·cases hf;exact ⟨_,_,Tryz.func92,Xb⟩
 ·cases hf;exact ⟨_,_,Tryz.func93,Xd⟩
 ·cases hf;exact ⟨_,_,Tryz.func94,Xe⟩
 ·cases hf
def IN :Nat→Option Go.Vm.Fn:=fun
 | 95=> some F95
 | 96=> some F96
 | 97=> some F97
 | 98=> some F98
 | 99=> some F99
 | 100=> some Xq
 | 101=> some Xr
 | 102=> some Xs
 | 103=> some Xt
 | 104=> some Xu
 | 105=> some P5
 | 106=> some P7
 | 107=> some Xv
 | 108=> some Xw
 | 109=> some Xx
 | 112=> some Xy
 | 113=> some Xz
 | 114=> some XA
 | 115=> some XC
 | 116=> some XD
 | 117=> some XE
 | 118=> some XF
 | 119=> some XG
 | 120=> some XH
 | 121=> some XI
 | 122=> some XJ
 | 123=> some XK
 | 124=> some XL
 | 125=> some XM
 | 126=> some XN
 | 127=> some XO
 | 128=> some XP
 | 129=> some QT
 | 130=> some XQ
 | 131=> some XS
 | 133=> some XU
 | 135=> some XV
 | 136=> some XW
 | 137=> some XX
 | 138=> some XY
 | 139=> some XZ
 | 140=> some X1
 | 141=> some X2
 | 142=> some X3
 | 143=> some X4
 | _=> none
theorem IP :rz Tryz.prog IN:=by
 intro f F hf
 unfold IN at hf
 split at hf
 ·cases hf;exact ⟨_,_,Tryz.func95,Xg⟩
 ·cases hf;exact ⟨_,_,Tryz.func96,Xi⟩
 ·cases hf;exact ⟨_,_,Tryz.func97,Xk⟩
 ·cases hf;exact ⟨_,_,Tryz.func98,Xm⟩
 ·cases hf;exact ⟨_,_,Tryz.func99,Xo⟩
 ·cases hf;exact ⟨_,_,Tryz.func100,PR⟩
 ·cases hf;exact ⟨_,_,Tryz.func101,PU⟩
 ·cases hf;exact ⟨_,_,Tryz.func102,PX⟩
 ·cases hf;exact ⟨_,_,Tryz.func103,P0⟩
 ·cases hf;exact ⟨_,_,Tryz.func104,P3⟩
 ·cases hf;exact ⟨_,_,Tryz.func105,Im⟩
 ·cases hf;exact ⟨_,_,Tryz.func106,Io⟩
 ·cases hf;exact ⟨_,_,Tryz.func107,P9⟩
 ·cases hf;exact ⟨_,_,Tryz.func108,Qb⟩
 ·cases hf;exact ⟨_,_,Tryz.func109,Qe⟩
 ·cases hf;exact ⟨_,_,Tryz.func112,Qg⟩
 ·cases hf;exact ⟨_,_,Tryz.func113,Qh⟩
 ·cases hf;exact ⟨_,_,Tryz.func114,Qi⟩
 ·cases hf;exact ⟨_,_,Tryz.func115,Qk⟩
 ·cases hf;exact ⟨_,_,Tryz.func116,Qm⟩
 ·cases hf;exact ⟨_,_,Tryz.func117,Qo⟩
 ·cases hf;exact ⟨_,_,Tryz.func118,Qq⟩
 ·cases hf;exact ⟨_,_,Tryz.func119,Qt⟩
 ·cases hf;exact ⟨_,_,Tryz.func120,Qw⟩
 ·cases hf;exact ⟨_,_,Tryz.func121,Qz⟩
 ·cases hf;exact ⟨_,_,Tryz.func122,QB⟩
 ·cases hf;exact ⟨_,_,Tryz.func123,QE⟩
 ·cases hf;exact ⟨_,_,Tryz.func124,QH⟩
 ·cases hf;exact ⟨_,_,Tryz.func125,QK⟩
 ·cases hf;exact ⟨_,_,Tryz.func126,QM⟩
 ·cases hf;exact ⟨_,_,Tryz.func127,QP⟩
 ·cases hf;exact ⟨_,_,Tryz.func128,QR⟩
 ·cases hf;exact ⟨_,_,Tryz.func129,ID⟩
 ·cases hf;exact ⟨_,_,Tryz.func130,QV⟩
 ·cases hf;exact ⟨_,_,Tryz.func131,QX⟩
 ·cases hf;exact ⟨_,_,Tryz.func133,QZ⟩
 ·cases hf;exact ⟨_,_,Tryz.func135,Q0⟩
 ·cases hf;exact ⟨_,_,Tryz.func136,Q3⟩
 ·cases hf;exact ⟨_,_,Tryz.func137,Q5⟩
 ·cases hf;exact ⟨_,_,Tryz.func138,Q8⟩
 ·cases hf;exact ⟨_,_,Tryz.func139,Rb⟩
 ·cases hf;exact ⟨_,_,Tryz.func140,Rf⟩
 ·cases hf;exact ⟨_,_,Tryz.func141,Ri⟩
 ·cases hf;exact ⟨_,_,Tryz.func142,Rl⟩
 ·cases hf;exact ⟨_,_,Tryz.func143,Rn⟩
 ·cases hf
def IQ :Nat→Option Go.Vm.Fn:=fun
 | 144=> some X5
 | 145=> some X6
 | 146=> some X7
 | 147=> some X8
 | 148=> some X9
 | 149=> some Ya
 | 150=> some Yb
 | _=> none
theorem IS :rz Tryz.prog IQ:=by
 intro f F hf
 unfold IQ at hf
 split at hf
 ·cases hf;exact ⟨_,_,Tryz.func144,Rq⟩
 ·cases hf;exact ⟨_,_,Tryz.func145,Rt⟩
 ·cases hf;exact ⟨_,_,Tryz.func146,Ru⟩
 ·cases hf;exact ⟨_,_,Tryz.func147,Rw⟩
 ·cases hf;exact ⟨_,_,Tryz.func148,Rz⟩
 ·cases hf;exact ⟨_,_,Tryz.func149,RD⟩
 ·cases hf;exact ⟨_,_,Tryz.func150,RH⟩
 ·cases hf
def fns (f:Nat):Option Go.Vm.Fn:=bif Nat.blt f 48 then IJ f else bif Nat.blt f 95 then IL f else bif Nat.blt f 144 then IN f else IQ f
theorem PQ :rz Tryz.prog fns:=by
 intro f F hf
 unfold fns at hf
 cases h0:Nat.blt f 48 with
 | true=> rw[h0] at hf;exact IK f F hf
 | false=>
 rw[h0] at hf;simp only[cond_false] at hf
 cases h1:Nat.blt f 95 with
 | true=> rw[h1] at hf;exact IM f F hf
 | false=>
 rw[h1] at hf;simp only[cond_false] at hf
 cases h2:Nat.blt f 144 with
 | true=> rw[h2] at hf;exact IP f F hf
 | false=>
 rw[h2] at hf;simp only[cond_false] at hf
 exact IS f F hf
def qD :Nat→Option Go.Vm.Fn:=fun
 | 71=> some F71
 | 105=> some P5
 | 106=> some P7
 | 129=> some QT
 | _=> none
theorem Mp :rz Tryz.prog qD:=by
 intro f F hf
 unfold qD at hf
 split at hf
 ·cases hf;exact ⟨_,_,Tryz.func71,Ww⟩
 ·cases hf;exact ⟨_,_,Tryz.func105,Im⟩
 ·cases hf;exact ⟨_,_,Tryz.func106,Io⟩
 ·cases hf;exact ⟨_,_,Tryz.func129,ID⟩
 ·cases hf
set_option maxRecDepth 100000
structure KV where
 iD:Int
 mX:Int
 owner:Int
 cW:Int
 used:Int
 jd:Int
 gen:Int
 cx:(List UInt8)
 deriving DecidableEq,Inhabited
def KV.enc (a:KV):V:= .st 43 [.s (.int .i64 a.iD),.s (.int .i64 a.mX),.s (.int .i64 a.owner),.s (.int .i64 a.cW),.s (.int .i64 a.used),.s (.int .i64 a.jd),.s (.int .u64 a.gen),.al false none (a.cx.map aa)]
structure KV.wf (a:KV):Prop where
 iD: -9223372036854775808≤a.iD∧a.iD≤9223372036854775807
 mX: -9223372036854775808≤a.mX∧a.mX≤9223372036854775807
 owner: -9223372036854775808≤a.owner∧a.owner≤9223372036854775807
 cW: -9223372036854775808≤a.cW∧a.cW≤9223372036854775807
 used: -9223372036854775808≤a.used∧a.used≤9223372036854775807
 jd: -9223372036854775808≤a.jd∧a.jd≤9223372036854775807
 gen:0≤a.gen∧a.gen≤18446744073709551615
 cx:a.cx.length≤140737488351232
theorem KV.of (n:Nat) {v:V} (h:bZ Tryz.prog (n+3) 44 v):∃a:KV,v=a.enc∧a.wf:=by
 obtain ⟨vs,rfl,hl,hf⟩:=of_struct h Tryz.underlying44
 match vs,hl with
 | [x0,x1,x2,x3,x4,x5,x6,x7],_=>
   obtain ⟨a0,rfl,w0⟩:=ez (n:=n+1) (hf 0 _ x0 rfl rfl) Tryz.underlying3
   obtain ⟨a1,rfl,w1⟩:=ez (n:=n+1) (hf 1 _ x1 rfl rfl) Tryz.underlying3
   obtain ⟨a2,rfl,w2⟩:=ez (n:=n+1) (hf 2 _ x2 rfl rfl) Tryz.underlying3
   obtain ⟨a3,rfl,w3⟩:=ez (n:=n+1) (hf 3 _ x3 rfl rfl) Tryz.underlying3
   obtain ⟨a4,rfl,w4⟩:=ez (n:=n+1) (hf 4 _ x4 rfl rfl) Tryz.underlying3
   obtain ⟨a5,rfl,w5⟩:=ez (n:=n+1) (hf 5 _ x5 rfl rfl) Tryz.underlying3
   obtain ⟨a6,rfl,w6⟩:=o5 (n:=n+1) (hf 6 _ x6 rfl rfl) Tryz.underlying34
   obtain ⟨a7,rfl,w7⟩:=yB (n:=n+0) (hf 7 _ x7 rfl rfl) Tryz.underlying42 Tryz.underlying5 (by kernel_rfl)
   exact ⟨⟨a0,a1,a2,a3,a4,a5,a6,a7⟩,rfl,⟨w0,w1,w2,w3,w4,w5,w6,w7⟩⟩
structure KR where
 kind:Int
 aw:Int
 cg:Int
 au:Int
 v:KV
 l:(List KV)
 deriving DecidableEq,Inhabited
def KR.enc (a:KR):V:= .st 46 [.s (.int .i64 a.kind),.s (.int .i64 a.aw),.s (.int .i64 a.cg),.s (.int .u64 a.au),KV.enc a.v,.al false (some 43) (a.l.map fun z=> KV.enc z)]
structure KR.wf (a:KR):Prop where
 kind: -9223372036854775808≤a.kind∧a.kind≤9223372036854775807
 aw: -9223372036854775808≤a.aw∧a.aw≤9223372036854775807
 cg: -9223372036854775808≤a.cg∧a.cg≤9223372036854775807
 au:0≤a.au∧a.au≤18446744073709551615
 v:a.v.wf
 l:a.l.length≤140737488351232∧∀z∈a.l,z.wf
theorem KR.of (n:Nat) {v:V} (h:bZ Tryz.prog (n+5) 47 v):∃a:KR,v=a.enc∧a.wf:=by
 obtain ⟨vs,rfl,hl,hf⟩:=of_struct h Tryz.underlying47
 match vs,hl with
 | [x0,x1,x2,x3,x4,x5],_=>
   obtain ⟨a0,rfl,w0⟩:=ez (n:=n+3) (hf 0 _ x0 rfl rfl) Tryz.underlying3
   obtain ⟨a1,rfl,w1⟩:=ez (n:=n+3) (hf 1 _ x1 rfl rfl) Tryz.underlying3
   obtain ⟨a2,rfl,w2⟩:=ez (n:=n+3) (hf 2 _ x2 rfl rfl) Tryz.underlying3
   obtain ⟨a3,rfl,w3⟩:=o5 (n:=n+3) (hf 3 _ x3 rfl rfl) Tryz.underlying34
   obtain ⟨a4,rfl,w4⟩:=KV.of _ (hf 4 _ x4 rfl rfl)
   obtain ⟨a5,rfl,w5⟩:=(Exists.elim (of_slice (f:=fun z=> KV.enc z) (p:=fun z=> z.wf) (n:=n+3) (hf 5 _ x5 rfl rfl) Tryz.underlying45 (by kernel_rfl:aE Tryz.prog 44=(some 43)) (fun x hx=> KV.of _ hx)) fun a q=>(⟨a,q.1,⟨acN (adJ _ (show 1≤Tryz.prog.bytesOf 44 by rw[show Tryz.prog.bytesOf 44=80 from by kernel_rfl];omega)) q.2.1,q.2.2⟩⟩:∃a:List KV,_=V.al false (some 43) (a.map fun z=> KV.enc z)∧a.length≤140737488351232∧∀z∈a,z.wf))
   exact ⟨⟨a0,a1,a2,a3,a4,a5⟩,rfl,⟨w0,w1,w2,w3,w4,w5⟩⟩
structure ae where
 iD:(List UInt8)
 gen:Int
 mX:(List UInt8)
 cx:(List UInt8)
 cW:Int
 used:Int
 owner:(List UInt8)
 gone:Bool
 mY:Bool
 deriving DecidableEq,Inhabited
def ae.enc (a:ae):V:= .st 56 [.arr 54 (a.iD.map aa),.s (.int .u64 a.gen),.arr 27 (a.mX.map aa),.al false none (a.cx.map aa),.s (.int .i64 a.cW),.s (.int .i64 a.used),.arr 27 (a.owner.map aa),.s (.bool a.gone),.s (.bool a.mY)]
structure ae.wf (a:ae):Prop where
 iD:a.iD.length=4
 gen:0≤a.gen∧a.gen≤18446744073709551615
 mX:a.mX.length=16
 cx:a.cx.length≤140737488351232
 cW: -9223372036854775808≤a.cW∧a.cW≤9223372036854775807
 used: -9223372036854775808≤a.used∧a.used≤9223372036854775807
 owner:a.owner.length=16
 gone:True
 mY:True
theorem ae.of (n:Nat) {v:V} (h:bZ Tryz.prog (n+3) 57 v):∃a:ae,v=a.enc∧a.wf:=by
 obtain ⟨vs,rfl,hl,hf⟩:=of_struct h Tryz.underlying57
 match vs,hl with
 | [x0,x1,x2,x3,x4,x5,x6,x7,x8],_=>
   obtain ⟨a0,rfl,w0⟩:=sq (n:=n+0) (hf 0 _ x0 rfl rfl) Tryz.underlying55 Tryz.underlying5
   obtain ⟨a1,rfl,w1⟩:=o5 (n:=n+1) (hf 1 _ x1 rfl rfl) Tryz.underlying34
   obtain ⟨a2,rfl,w2⟩:=sq (n:=n+0) (hf 2 _ x2 rfl rfl) Tryz.underlying28 Tryz.underlying5
   obtain ⟨a3,rfl,w3⟩:=yB (n:=n+0) (hf 3 _ x3 rfl rfl) Tryz.underlying42 Tryz.underlying5 (by kernel_rfl)
   obtain ⟨a4,rfl,w4⟩:=ez (n:=n+1) (hf 4 _ x4 rfl rfl) Tryz.underlying3
   obtain ⟨a5,rfl,w5⟩:=ez (n:=n+1) (hf 5 _ x5 rfl rfl) Tryz.underlying3
   obtain ⟨a6,rfl,w6⟩:=sq (n:=n+0) (hf 6 _ x6 rfl rfl) Tryz.underlying28 Tryz.underlying5
   obtain ⟨a7,rfl,w7⟩:=(of_bool (n:=n+1) (hf 7 _ x7 rfl rfl) Tryz.underlying4).imp fun _ h=> And.intro h trivial
   obtain ⟨a8,rfl,w8⟩:=(of_bool (n:=n+1) (hf 8 _ x8 rfl rfl) Tryz.underlying4).imp fun _ h=> And.intro h trivial
   exact ⟨⟨a0,a1,a2,a3,a4,a5,a6,a7,a8⟩,rfl,⟨w0,w1,w2,w3,w4,w5,w6,w7,w8⟩⟩
structure av where
 kind:Int
 aw:Int
 cg:Int
 au:Int
 aq:ae
 ag:(List ae)
 deriving DecidableEq,Inhabited
def av.enc (a:av):V:= .st 59 [.s (.int .i64 a.kind),.s (.int .i64 a.aw),.s (.int .i64 a.cg),.s (.int .u64 a.au),ae.enc a.aq,.al false (some 56) (a.ag.map fun z=> ae.enc z)]
structure av.wf (a:av):Prop where
 kind: -9223372036854775808≤a.kind∧a.kind≤9223372036854775807
 aw: -9223372036854775808≤a.aw∧a.aw≤9223372036854775807
 cg: -9223372036854775808≤a.cg∧a.cg≤9223372036854775807
 au:0≤a.au∧a.au≤18446744073709551615
 aq:a.aq.wf
 ag:a.ag.length≤140737488351232∧∀z∈a.ag,z.wf
theorem av.of (n:Nat) {v:V} (h:bZ Tryz.prog (n+5) 60 v):∃a:av,v=a.enc∧a.wf:=by
 obtain ⟨vs,rfl,hl,hf⟩:=of_struct h Tryz.underlying60
 match vs,hl with
 | [x0,x1,x2,x3,x4,x5],_=>
   obtain ⟨a0,rfl,w0⟩:=ez (n:=n+3) (hf 0 _ x0 rfl rfl) Tryz.underlying3
   obtain ⟨a1,rfl,w1⟩:=ez (n:=n+3) (hf 1 _ x1 rfl rfl) Tryz.underlying3
   obtain ⟨a2,rfl,w2⟩:=ez (n:=n+3) (hf 2 _ x2 rfl rfl) Tryz.underlying3
   obtain ⟨a3,rfl,w3⟩:=o5 (n:=n+3) (hf 3 _ x3 rfl rfl) Tryz.underlying34
   obtain ⟨a4,rfl,w4⟩:=ae.of _ (hf 4 _ x4 rfl rfl)
   obtain ⟨a5,rfl,w5⟩:=(Exists.elim (of_slice (f:=fun z=> ae.enc z) (p:=fun z=> z.wf) (n:=n+3) (hf 5 _ x5 rfl rfl) Tryz.underlying58 (by kernel_rfl:aE Tryz.prog 57=(some 56)) (fun x hx=> ae.of _ hx)) fun a q=>(⟨a,q.1,⟨acN (adJ _ (show 1≤Tryz.prog.bytesOf 57 by rw[show Tryz.prog.bytesOf 57=96 from by kernel_rfl];omega)) q.2.1,q.2.2⟩⟩:∃a:List ae,_=V.al false (some 56) (a.map fun z=> ae.enc z)∧a.length≤140737488351232∧∀z∈a,z.wf))
   exact ⟨⟨a0,a1,a2,a3,a4,a5⟩,rfl,⟨w0,w1,w2,w3,w4,w5⟩⟩
structure ah where
 bD:Int
 count:Int
 base:Int
 head:(List UInt8)
 aG:Int
 deriving DecidableEq,Inhabited
def ah.enc (a:ah):V:= .st 35 [.s (.int .u64 a.bD),.s (.int .u64 a.count),.s (.int .u64 a.base),.arr 27 (a.head.map aa),.s (.int .i64 a.aG)]
structure ah.wf (a:ah):Prop where
 bD:0≤a.bD∧a.bD≤18446744073709551615
 count:0≤a.count∧a.count≤18446744073709551615
 base:0≤a.base∧a.base≤18446744073709551615
 head:a.head.length=16
 aG: -9223372036854775808≤a.aG∧a.aG≤9223372036854775807
theorem ah.of (n:Nat) {v:V} (h:bZ Tryz.prog (n+3) 36 v):∃a:ah,v=a.enc∧a.wf:=by
 obtain ⟨vs,rfl,hl,hf⟩:=of_struct h Tryz.underlying36
 match vs,hl with
 | [x0,x1,x2,x3,x4],_=>
   obtain ⟨a0,rfl,w0⟩:=o5 (n:=n+1) (hf 0 _ x0 rfl rfl) Tryz.underlying34
   obtain ⟨a1,rfl,w1⟩:=o5 (n:=n+1) (hf 1 _ x1 rfl rfl) Tryz.underlying34
   obtain ⟨a2,rfl,w2⟩:=o5 (n:=n+1) (hf 2 _ x2 rfl rfl) Tryz.underlying34
   obtain ⟨a3,rfl,w3⟩:=sq (n:=n+0) (hf 3 _ x3 rfl rfl) Tryz.underlying28 Tryz.underlying5
   obtain ⟨a4,rfl,w4⟩:=ez (n:=n+1) (hf 4 _ x4 rfl rfl) Tryz.underlying3
   exact ⟨⟨a0,a1,a2,a3,a4⟩,rfl,⟨w0,w1,w2,w3,w4⟩⟩
structure gS where
 kind:Int
 n:Int
 dG:Int
 r:KR
 deriving DecidableEq,Inhabited
def gS.enc (a:gS):V:= .st 48 [.s (.int .i64 a.kind),.s (.int .i64 a.n),.s (.int .i64 a.dG),KR.enc a.r]
structure gS.wf (a:gS):Prop where
 kind: -9223372036854775808≤a.kind∧a.kind≤9223372036854775807
 n: -9223372036854775808≤a.n∧a.n≤9223372036854775807
 dG: -9223372036854775808≤a.dG∧a.dG≤9223372036854775807
 r:a.r.wf
theorem gS.of (n:Nat) {v:V} (h:bZ Tryz.prog (n+6) 49 v):∃a:gS,v=a.enc∧a.wf:=by
 obtain ⟨vs,rfl,hl,hf⟩:=of_struct h Tryz.underlying49
 match vs,hl with
 | [x0,x1,x2,x3],_=>
   obtain ⟨a0,rfl,w0⟩:=ez (n:=n+4) (hf 0 _ x0 rfl rfl) Tryz.underlying3
   obtain ⟨a1,rfl,w1⟩:=ez (n:=n+4) (hf 1 _ x1 rfl rfl) Tryz.underlying3
   obtain ⟨a2,rfl,w2⟩:=ez (n:=n+4) (hf 2 _ x2 rfl rfl) Tryz.underlying3
   obtain ⟨a3,rfl,w3⟩:=KR.of _ (hf 3 _ x3 rfl rfl)
   exact ⟨⟨a0,a1,a2,a3⟩,rfl,⟨w0,w1,w2,w3⟩⟩
end Go.Proofs.YthplailfedobeaaGreat
namespace Go.Cl
abbrev Bs :=List UInt8
def within (n lo hi:Int):Int:=if lo≤n∧n≤hi then n else lo+n %(hi - lo+1)
theorem ju {n lo hi:Int} (h:lo≤hi):lo≤within n lo hi:=by
 unfold within
 split
 ·omega
 ·have:=afH n (show hi - lo+1≠0 by omega);omega
theorem gZ {n lo hi:Int} (h:lo≤hi):within n lo hi≤hi:=by
 unfold within
 split
 ·omega
 ·have:=afk n (show 0 < hi - lo+1 by omega);omega
theorem IT {n m:Int} (hm:0 < m):n % m=if n.tmod m < 0 then n.tmod m+m else n.tmod m:=by
 rw[Int.emod_eq_tmod]
 by_cases h:0≤n
 ·have h1:(0≤n∨m ∣ n):= .inl h
  rw[if_pos h1]
  have:=aeg m h
  rw[if_neg (by omega)];omega
 ·by_cases hd:m ∣ n
  ·rw[if_pos (.inr hd),Int.tmod_eq_zero_of_dvd hd];simp
  ·rw[if_neg (by simp[h,hd])]
   have h2:n.tmod m≠0:=fun e=> hd (Int.dvd_of_tmod_eq_zero e)
   have h3:n.tmod m≤0:=by
     have:=aeg m (show 0≤ -n by omega)
     rw[Int.neg_tmod] at this;omega
   rw[if_pos (by omega)]
   have:(m.natAbs:Int)=m:=by omega
   rw[this]
end Go.Cl
namespace Go.Cl
open Go Go.Vm
def pN (k x:Nat):Nat:=x * 2 ^ k % 4294967296+x / 2 ^(32 - k)
structure W where
 a:Nat
 b:Nat
 c:Nat
 d:Nat
def xr (a b:Nat):Nat:=(a ^^^ b) % 4294967296
def ad (a b:Nat):Nat:=(a+b) % 4294967296
def half (k1 k2:Nat) (x:W):W:=
 let a:=ad x.a x.b
 let d:=pN k1 (xr x.d a)
 let c:=ad x.c d
 let b:=pN k2 (xr x.b c)
 ⟨a,b,c,d⟩
def iH (x:W):W:=half 8 7 (half 16 12 x)
def W.vs (x:W):List V:=[.s (.int .u32 x.a),.s (.int .u32 x.b),.s (.int .u32 x.c),.s (.int .u32 x.d)]
def W.ok (x:W):Prop:=x.a < 4294967296∧x.b < 4294967296∧x.c < 4294967296∧x.d < 4294967296
theorem Mq (a b:Nat):IntKind.u32.wrap ((a:Int)+(b:Int))=((ad a b:Nat):Int):=by
 have:IntKind.u32.wrap ((a:Int)+(b:Int))=((a:Int)+b) % 4294967296:=by
   simp only[IntKind.wrap,IntKind.bits,IntKind.signed];rfl
 rw[this,ad];omega
theorem jv (n a:Nat):BitVec.ofInt n (a:Int)=BitVec.ofNat n a:=by
 apply afI
 rw[BitVec.toNat_ofInt,ad3];omega
theorem sZ {x:Nat} (h:x < 4294967296):IntKind.u32.wrap (x:Int)=(x:Int):=wrap_u32 (by omega) (by omega)
theorem yC (a b:Nat):Mr .u32 (a:Int) (b:Int)=((xr a b:Nat):Int):=by
 have h:Mr .u32 (a:Int) (b:Int)=IntKind.u32.wrap (((BitVec.ofInt 32 (a:Int)^^^ BitVec.ofInt 32 (b:Int)).toNat:Nat):Int):=rfl
 rw[h,jv,jv,BitVec.toNat_xor,ad3,ad3,←Nat.xor_mod_two_pow]
 have bR:(a ^^^ b) % 2 ^ 32 < 4294967296:=aeI _ (by decide)
 rw[sZ bR]
 rfl
theorem RI {a b:Nat} (ha:a < 4294967296) (hb:b < 4294967296):orI .u32 (a:Int) (b:Int)=((a ||| b:Nat):Int):=by
 have h:orI .u32 (a:Int) (b:Int)=IntKind.u32.wrap (((BitVec.ofInt 32 (a:Int) ||| BitVec.ofInt 32 (b:Int)).toNat:Nat):Int):=rfl
 rw[h,jv,jv,BitVec.toNat_or,ad3,ad3,aeu (show a < 2 ^ 32 from ha),aeu (show b < 2 ^ 32 from hb)]
 exact sZ (Nat.or_lt_two_pow (n:=32) ha hb)
theorem IU {a k:Nat} (hk:k≤32):xf .u32 (a:Int) (k:Int)=((a * 2 ^ k % 4294967296:Nat):Int):=by
 have h:xf .u32 (a:Int) (k:Int)=IntKind.u32.wrap ((a:Int)* 2 ^(min ((k:Int).toNat) 32)):=rfl
 rw[h,acC,acZ hk]
 have h2:((a:Int)* 2 ^ k)=((a * 2 ^ k:Nat):Int):=by simp
 rw[h2]
 have:IntKind.u32.wrap ((a * 2 ^ k:Nat):Int)=((a * 2 ^ k:Nat):Int) % 4294967296:=by
   simp only[IntKind.wrap,IntKind.bits,IntKind.signed];rfl
 rw[this];omega
theorem IV {a k:Nat} (hk:k≤32):qE .u32 (a:Int) (k:Int)=((a / 2 ^ k:Nat):Int):=by
 have h:qE .u32 (a:Int) (k:Int)=(a:Int).fdiv (2 ^(min ((k:Int).toNat) 32)):=rfl
 rw[h,acC,acZ hk,aeL _ (by exact Int.le_of_lt (Int.pow_pos (by decide)))]
 simp
theorem AX {x y k:Nat} (h:y < 2 ^ k):x * 2 ^ k ||| y=x * 2 ^ k+y:=by
 have:=Nat.shiftLeft_add_eq_or_of_lt h x
 rw[Nat.shiftLeft_eq] at this
 exact this.symm
theorem AY {x k:Nat} (hx:x < 4294967296) (hk:k≤32):(x * 2 ^ k % 4294967296) ||| (x / 2 ^(32 - k))=pN k x:=by
 have hp:2 ^(32 - k)* 2 ^ k=4294967296:=by rw[←Nat.pow_add];rw[show 32 - k+k=32 by omega]
 have h1:x * 2 ^ k % 4294967296=(x % 2 ^(32 - k))* 2 ^ k:=by
   rw[←hp,Nat.mul_mod_mul_right]
 have h2:x / 2 ^(32 - k)< 2 ^ k:=by
   rw[afJ (afa _),aeb,hp];exact hx
 rw[pN,h1,AX h2]
theorem AZ {x k:Nat} (hx:x < 4294967296) (hk:k≤32):pN k x < 4294967296:=by
 rw[←AY hx hk]
 have h2:x / 2 ^(32 - k)< 4294967296:=aez (aep _ _) hx
 exact Nat.or_lt_two_pow (n:=32) (aeI _ (by decide)) h2
theorem IW {x:Nat} (hx:x < 4294967296):pN 0 x=x:=by
 simp only[pN,afT,Nat.mul_one];omega
theorem Eh {x j q t r:Nat} (hj:j≤31) (hx:x=q * 2 ^(32 - j)+t * 2 ^(31 - j)+r) (hq:q < 2 ^ j) (ht:t < 2) (hr:r < 2 ^(31 - j)):pN j x=t * 2147483648+(r * 2 ^ j+q)∧pN (j+1) x=(r * 2 ^ j+q)* 2+t∧r * 2 ^ j+q < 2147483648:=by
 obtain ⟨B,hB⟩:∃B,2 ^(31 - j)=B:=⟨_,rfl⟩
 obtain ⟨J,hJ⟩:∃J,2 ^ j=J:=⟨_,rfl⟩
 have hBJ:B * J=2147483648:=by rw[←hB,←hJ,←Nat.pow_add];rw[show 31 - j+j=31 by omega]
 have hA:2 ^(32 - j)=2 * B:=by rw[←hB,show 32 - j=(31 - j)+1 by omega,ae5];omega
 have hs:32 - (j+1)=31 - j:=by omega
 have hJ2:2 ^(j+1)=J * 2:=by rw[ae5,hJ]
 have hB0:0 < B:=by rw[←hB];exact afa _
 rw[hB] at hx hr
 rw[hJ] at hq
 rw[hA] at hx
 have hrJ:r * J+J≤2147483648:=by
   rw[←hBJ,←Nat.succ_mul];exact acE _ hr
 have bR:r * J+q < 2147483648:=by omega
 have e1:x * J=q * 4294967296+t * 2147483648+r * J:=by
   rw[hx,adG,adG,aft q,aft 2 B J,aft t B J,hBJ]
 have e2:x /(2 * B)=q:=by
   rw[hx,aek,aeb q,Nat.mul_add_div (by omega)]
   have:(t * B+r)/(2 * B)=0:=ae7 (by
     have:t * B≤1 * B:=acE _ (by omega)
     omega)
   omega
 have e3:x / B=q * 2+t:=by
   have:x=B *(q * 2+t)+r:=by
     rw[hx,Nat.mul_add,aeb B t,←Nat.mul_assoc,←Nat.mul_assoc,aeb B q,aft q B 2,aeb B 2,←Nat.mul_assoc]
   rw[this,Nat.mul_add_div hB0,ae7 hr,aeC]
 refine ⟨?_,?_,by rw[hJ];exact bR⟩
 ·rw[pN,hJ,hA,e1,e2];omega
 ·rw[pN,hJ2,hs,hB,e3,hJ,←Nat.mul_assoc,e1];omega
theorem IX {x j:Nat} (hx:x < 4294967296) (hj:j≤31):pN 1 (pN j x)=pN (j+1) x:=by
 obtain ⟨B,hB⟩:∃B,2 ^(31 - j)=B:=⟨_,rfl⟩
 have hB0:0 < B:=by rw[←hB];exact afa _
 have hA:2 ^(32 - j)=2 * B:=by rw[←hB,show 32 - j=(31 - j)+1 by omega,ae5];omega
 have hAJ:2 ^(32 - j)* 2 ^ j=4294967296:=by rw[←Nat.pow_add];rw[show 32 - j+j=32 by omega]
 have h1:=Nat.div_add_mod x B
 have h2:=Nat.div_add_mod (x / B) 2
 obtain ⟨g1,g2,g3⟩:=Eh (x:=x) (j:=j) (q:=x / B / 2) (t:=x / B % 2) (r:=x % B) hj (by
     rw[hA,hB]
     conv=> lhs;rw[←h1,←h2]
     rw[Nat.mul_add,aeb B (x / B % 2),←Nat.mul_assoc,aeb B 2,aeb (2 * B)])
   (by
     rw[aey,aeb B 2,←hA,afJ (afa _),aeb,hAJ];exact hx)
   (aeI _ (by omega)) (by rw[hB];exact aeI _ hB0)
 rw[g1,g2]
 have ht:x / B % 2 < 2:=aeI _ (by omega)
 generalize x % B * 2 ^ j+x / B / 2=y at g3
 generalize x / B % 2=t at ht
 simp only[pN,Nat.reducePow,Nat.reduceSub];omega
theorem mB (a b:Nat):xr a b < 4294967296:=aeI _ (by decide)
theorem Ph (a b:Nat):ad a b < 4294967296:=aeI _ (by decide)
theorem Ms (k1 k2:Nat) (h1:k1≤32) (h2:k2≤32) (x:W):(half k1 k2 x).ok:=⟨Ph _ _,AZ (mB _ _) h2,Ph _ _,AZ (mB _ _) h1⟩
theorem pO (x:W):(iH x).ok:=Ms _ _ (by omega) (by omega) _
def oz (l:Bs):Nat:=(l.getD 0 0).toNat+256 *(l.getD 1 0).toNat+65536 *(l.getD 2 0).toNat+16777216 *(l.getD 3 0).toNat
theorem IY (l:Bs):oz l < 4294967296:=by
 have h0:=(l.getD 0 0).toNat_lt
 have h1:=(l.getD 1 0).toNat_lt
 have h2:=(l.getD 2 0).toNat_lt
 have h3:=(l.getD 3 0).toNat_lt
 unfold oz;omega
theorem yD (l:Bs) (j:Nat) (hj:j < 4):oz l / 256 ^(j+1)* 256+(l.getD j 0).toNat=oz l / 256 ^ j:=by
 have h0:=(l.getD 0 0).toNat_lt
 have h1:=(l.getD 1 0).toNat_lt
 have h2:=(l.getD 2 0).toNat_lt
 have h3:=(l.getD 3 0).toNat_lt
 unfold oz
 have:j=0∨j=1∨j=2∨j=3:=by omega
 rcases this with rfl | rfl | rfl | rfl <;>(simp only[Nat.reducePow,Nat.reduceAdd,afO];omega)
theorem CS (l:Bs):oz l / 256 ^ 4=0:=ae7 (IY l)
theorem vC (l:Bs) (j:Nat):oz l / 256 ^(j+1)< 16777216:=by
 have h:=IY l
 rw[ae5,aeb,←Nat.div_div_eq_div_mul]
 exact aez (aep _ _) (by omega)
def fY (n:Nat):Nat:=(8 - (n+1) % 8) % 8
def r9 (n:Nat):Nat→Bs
 | 0=> []
 | i+1=> r9 n i++[UInt8.ofNat (n / 2 ^(8 * i) % 256)]
def fJ (l:Bs):Bs:=l++[128]++List.replicate (fY l.length) 0++r9 l.length 8
def w0 :W:=⟨1668047222,1768383858,1801807216,1935763045⟩
def RJ (x:W) (t:Bs):W:=iH (iH (iH ⟨xr x.a (oz t),x.b,x.c,xr x.d (oz (t.drop 4))⟩))
def lZ (t:Bs):Nat→W
 | 0=> w0
 | i+1=> RJ (lZ t i) (t.drop (8 * i))
def dJ (x:W):Nat→W
 | 0=> x
 | i+1=> iH (dJ x i)
def W.at (x:W) (i:Nat):Nat:=if i=0 then x.a else if i=1 then x.b else if i=2 then x.c else x.d
def fZ (x:W):Nat→Bs
 | 0=> []
 | i+1=> fZ x i++[UInt8.ofNat (x.at (i / 4)/ 2 ^(8 *(i % 4)) % 256)]
def cV (l:Bs):Bs:=fZ (dJ (lZ (fJ l) ((fJ l).length / 8)) 8) 16
theorem xg (t:Bs):∀i,(lZ t i).ok
 | 0=>(⟨by decide,by decide,by decide,by decide⟩:w0.ok)
 | i+1=> pO _
theorem s9 {x:W} (hx:x.ok):∀i,(dJ x i).ok
 | 0=> hx
 | i+1=> pO _
theorem pP (n:Nat):∀i,(r9 n i).length=i
 | 0=> rfl
 | i+1=> by simp[r9,pP n i]
theorem iI (x:W):∀i,(fZ x i).length=i
 | 0=> rfl
 | i+1=> by simp[fZ,iI x i]
theorem o6 (l:Bs):(fJ l).length=l.length+1+fY l.length+8:=by simp[fJ,pP];omega
theorem ta (l:Bs):(fJ l).length % 8=0:=by rw[o6,fY];omega
theorem bq (l:Bs):(cV l).length=16:=iI _ _
end Go.Cl
namespace Go.Proofs.YthplailfedobeaaGreat
open Go Go.Vm Go.Proofs Go.Cl
def Rd (h:Hp) (x:V) (l:Bs):Prop:=(∀h',Fw [] h h'→elems h' x=some (none,l.map aa))∧fj x=some l.length
theorem tc {h h':Hp} (f:Fw [] h h') {id n:Nat} {r:Option Nat×List V} (hr:rowOf h id n=some r):rowOf h' id n=some r:=by
 unfold rowOf at hr ⊢
 split at hr
 ·rename_i hg
  rw[f.db _ _ hg (by simp)];exact hr
 ·cases hr
theorem A0 {h h':Hp} (f:Fw [] h h') {id n:Nat} {p:List Nat} {r:List V} (hr:Vm.rowAt h id p n=some r):Vm.rowAt h' id p n=some r:=by
 unfold Vm.rowAt at hr ⊢
 split at hr
 ·obtain ⟨q,h1,h2⟩:=ach.1 hr
  rw[tc f h1];exact ach.2 ⟨q,rfl,h2⟩
 ·split at hr
  ·rename_i t es hn
   have:node h' id p n=some (.arr t es):=by
     unfold node at hn ⊢
     cases hq:rowOf h id n with
     | none=> rw[hq] at hn;simp at hn
     | some q=> rw[tc f hq];rw[hq] at hn;exact hn
   rw[this];exact hr
  ·cases hr
theorem Rd.mk' {h:Hp} {x:V} {l:Bs} (he:elems h x=some (none,l.map aa)) (hl:fj x=some l.length):Rd h x l:=by
 refine ⟨fun h' f=> ?_,hl⟩
 cases x with
 | al fl g es=> exact he
 | ref id path g off len aB=>
   simp only[elems] at he ⊢
   obtain ⟨q,h1,h2⟩:=ach.1 he
   rw[A0 f h1];exact ach.2 ⟨q,rfl,h2⟩
 | _=> simp[elems] at he
theorem Rd.fw {h h':Hp} {x:V} {l:Bs} (hr:Rd h x l) (f:Fw [] h h'):Rd h' x l:=⟨fun h2 f2=> hr.1 h2 (f.trans f2),hr.2⟩
theorem BR.rd {h:Hp} {x:V} {l:Bs} (hb:BR h x l):Rd h x l:=Rd.mk' hb.elems hb.len
open Classical in
noncomputable def yE (vs:List V) (h:Hp):Option (V×Hp):=
 match vs with
 | [x]=> match elems h x with
   | some (none,es)=> match bytesOf es with
     | some l=> if es=l.map aa∧fj x=some l.length∧l.length≤1000000 then some (.arr 27 ((cV l).map aa),h) else none
     | none=> none
   | _=> none
 | _=> none
theorem Ei {vs:List V} {h:Hp} {v:V} {h':Hp} (hr:yE vs h=some (v,h')):h'=h:=by
 unfold yE at hr
 split at hr
 ·split at hr
  ·split at hr
   ·split at hr
    ·cases hr;rfl
    ·cases hr
   ·cases hr
  ·cases hr
 ·cases hr
theorem CT {h:Hp} {x:V} {l:Bs} (hr:Rd h x l) (hl:l.length≤1000000):yE [x] h=some (.arr 27 ((cV l).map aa),h):=by
 have he:=hr.1 h (Fw.refl _ _)
 simp only[yE,he,j7,hr.2,hl,and_self,if_true]
noncomputable def pr :CF:=fun f vs h=> match f with
 | 87=> dO vs h
 | 111=> yF vs h
 | 110=> fC (some 56) 96 vs h
 | 71=> yE vs h
 | _=> none
theorem yG (b:Nat) (h:Hp) (x y:V) (l m:Bs) (hx:BR h x l) (hy:BR h y m):run fns pr b 93 [x,y] h=some (.s (.bool (decide (l=m))),h):=by
 refine Vm.aQ (nt:=10) rfl Pe (by simp) ?_
 have h1:=hx.oL (cf:=run fns pr h.length) (base:=h.length)
 have h2:=hy.oL (cf:=run fns pr h.length) (base:=h.length)
 have:(decide ((⟨l.toArray⟩:ByteArray)=⟨m.toArray⟩))=decide (l=m):=by
   rw[decide_eq_decide];simp
 simp only[B93,go_sem,simprocAttr,h1,h2,this]
theorem q18z {n:Nat} (h:n < 4611686018427387904):IntKind.i64.wrap ((n:Int)+1)=((n+1:Nat):Int):=by
 rw[wrap_i64 (by omega) (by omega)];omega
theorem g8 (b:Nat) (h:Hp) (n lo hi:Int) (h1: -1000000000≤lo) (h2:lo≤hi) (h3:hi≤1000000000) (Ej: -9223372036854775808≤n) (Hj:n≤9223372036854775807):
 run fns pr b 7 [.s (.int .i64 n),.s (.int .i64 lo),.s (.int .i64 hi)] h=some (.s (.int .i64 (within n lo hi)),h):=by
 refine Vm.aQ (nt:=33) rfl aaL (by simp) ?_
 have w1:IntKind.i64.wrap (hi - lo)=hi - lo:=wrap_i64 (by omega) (by omega)
 have w2:IntKind.i64.wrap (hi - lo+1)=hi - lo+1:=wrap_i64 (by omega) (by omega)
 have hm:=IT (n:=n) (m:=hi - lo+1) (by omega)
 have e0:=afH n (show hi - lo+1≠0 by omega)
 have e1:=afk n (show 0 < hi - lo+1 by omega)
 have hq:=fun cf base h=> iJ cf base h .i64 n (hi - lo+1) (by omega)
 by_cases c1:lo≤n
 ·by_cases c2:n≤hi
  ·have:within n lo hi=n:=by simp[within,c1,c2]
   rw[this]
   simp only[B7,go_sem,simprocAttr,c1,c2]
  ·have hw:within n lo hi=lo+n %(hi - lo+1):=by simp[within,c2]
   rw[hw,hm]
   by_cases c3:n.tmod (hi - lo+1)< 0
   ·rw[if_pos c3] at hm ⊢
    have w3:IntKind.i64.wrap (n.tmod (hi - lo+1)+hi)=n.tmod (hi - lo+1)+hi:=wrap_i64 (by omega) (by omega)
    have w4:IntKind.i64.wrap (n.tmod (hi - lo+1)+hi - lo)=n.tmod (hi - lo+1)+hi - lo:=wrap_i64 (by omega) (by omega)
    have w5:IntKind.i64.wrap (n.tmod (hi - lo+1)+hi - lo+1)=n.tmod (hi - lo+1)+hi - lo+1:=wrap_i64 (by omega) (by omega)
    have w6:IntKind.i64.wrap (lo+(n.tmod (hi - lo+1)+hi - lo+1))=lo+(n.tmod (hi - lo+1)+hi - lo+1):=wrap_i64 (by omega) (by omega)
    simp only[B7,go_sem,simprocAttr,c1,c2,w1,w2,hq,c3,w3,w4,w5,w6]
    congr 2;omega
   ·rw[if_neg c3] at hm ⊢
    have w6:IntKind.i64.wrap (lo+n.tmod (hi - lo+1))=lo+n.tmod (hi - lo+1):=wrap_i64 (by omega) (by omega)
    simp only[B7,go_sem,simprocAttr,c1,c2,w1,w2,hq,c3,w6]
 ·have hw:within n lo hi=lo+n %(hi - lo+1):=by simp[within,c1]
  rw[hw,hm]
  by_cases c3:n.tmod (hi - lo+1)< 0
  ·rw[if_pos c3] at hm ⊢
   have w3:IntKind.i64.wrap (n.tmod (hi - lo+1)+hi)=n.tmod (hi - lo+1)+hi:=wrap_i64 (by omega) (by omega)
   have w4:IntKind.i64.wrap (n.tmod (hi - lo+1)+hi - lo)=n.tmod (hi - lo+1)+hi - lo:=wrap_i64 (by omega) (by omega)
   have w5:IntKind.i64.wrap (n.tmod (hi - lo+1)+hi - lo+1)=n.tmod (hi - lo+1)+hi - lo+1:=wrap_i64 (by omega) (by omega)
   have w6:IntKind.i64.wrap (lo+(n.tmod (hi - lo+1)+hi - lo+1))=lo+(n.tmod (hi - lo+1)+hi - lo+1):=wrap_i64 (by omega) (by omega)
   simp only[B7,go_sem,simprocAttr,c1,w1,w2,hq,c3,w3,w4,w5,w6]
   congr 2;omega
  ·rw[if_neg c3] at hm ⊢
   have w6:IntKind.i64.wrap (lo+n.tmod (hi - lo+1))=lo+n.tmod (hi - lo+1):=wrap_i64 (by omega) (by omega)
   simp only[B7,go_sem,simprocAttr,c1,w1,w2,hq,c3,w6]
set_option maxRecDepth 100000
theorem Yc (w:World) (a:Option Addr) (n c:Nat):(binOp .eql 42 (.slice a n c) (.slice none 0 0)).run Tryz.prog w= .ok (.bool a.isNone) w:=by
 simp[binOp,Op.equal,Op.maxDepth,Lib.run_equalIn_slice_nil w 9999 42 5 a n c 0 0 Tryz.underlying42]
def A1 :Go.Vm.C:=(.seq (.af [⟨some 5,.gT none [] [],[],none⟩,⟨some 6,.mv,[.t 0],none⟩,⟨some 7,.app none 1,[.t 5,.t 6],none⟩,⟨some 2,.mv,[.t 7],none⟩]) .ret)
theorem A2 (x:V) (h:Hp) (v:V) (h':Hp) (hc:dO [x] h=some (v,h')):∃fr',exec (fun _ _ _=> none) 0 A1 [x,.bP [],.al true none [],x,.s (.bool false),.bP [],.bP [],.bP []] h=some (.ret,fr',h')∧kZ fr' h' [.t 2]=some [v]:=by
 simp only[dO] at hc
 split at hc
 case h_2=> cases hc
 rename_i es he
 have jX:source h x=some (none,es):=by
   cases x with
   | s y=> simp[elems] at he
   | _=> exact he
 have yH:aC (fun _ _ _=> none) 0 h (.app none 1) [.al true none [],x]=some (v,h'):=by
   simp only[aC,oM,jX,ad6,df]
   split at hc
   ·rename_i h0;cases hc;simp[h0,fj]
   ·rename_i h0
    split at hc
    ·rename_i h1;cases hc;simp[h0,h1]
    ·cases hc
 refine ⟨[x,.bP [],v,x,.s (.bool false),.al true none [],x,v],?_,rfl⟩
 have h1:∀fr h,aC (fun _ _ _=> none) 0 h (.gT none [] []) (List.map (X.ev fr) [])=some (.al true none [],h):=fun _ _=> rfl
 have h2:lf (fun _ _ _=> none) 0 [⟨some 5,.gT none [] [],[],none⟩,⟨some 6,.mv,[.t 0],none⟩,⟨some 7,.app none 1,[.t 5,.t 6],none⟩,⟨some 2,.mv,[.t 7],none⟩] [x,.bP [],.al true none [],x,.s (.bool false),.bP [],.bP [],.bP []] h=
  match aC (fun _ _ _=> none) 0 h (.app none 1) [.al true none [],x] with
  | some (v,h')=> some ([x,.bP [],v,x,.s (.bool false),.al true none [],x,v],h')
  | none=> none:=by
   show (match aC (fun _ _ _=> none) 0 h (.app none 1) [.al true none [],x] with
     | some (v,h')=> _
     | none=> none)=_
   cases aC (fun _ _ _=> none) 0 h (.app none 1) [.al true none [],x]<;> rfl
 simp only[A1,exec,h2,yH,acO]
theorem rA (hL:(ak Tryz.prog).OK) {c:Ctx} {w:World} {x:V} {u:Value} {h:Hp} {v:V} {h':Hp} (hc:dO [x] h=some (v,h')) (hx:RV (ak Tryz.prog) c x u) (hs:bp (ak Tryz.prog) c h w):fD Tryz.prog (ak Tryz.prog) c w 87 [u] v h':=by
 have hsl:∃a n k,u= .slice a n k∧(a=none→n=0∧v= .al true none []∧h'=h):=by
   simp only[dO] at hc
   split at hc
   case h_2=> cases hc
   rename_i es he
   cases x with
   | al f g es'=>
     obtain ⟨a,k,h1,h2,h3,h4,h5⟩:=dh.1 hx
     refine ⟨a,_,k,h1,fun ha=> ?_⟩
     rcases h5 with h5 | ⟨b,off,cs,ty,fz,pI,_⟩
     ·simp only[elems,Option.some.injEq,Prod.mk.injEq] at he
      obtain ⟨rfl,rfl⟩:=he
      rw[if_pos h5] at hc
      cases hc
      exact ⟨by simp[h5],rfl,rfl⟩
     ·rw[ha] at pI;cases pI
   | ref id path g off len aB=>
     obtain ⟨a,k,h1,_⟩:=o7.1 hx
     exact ⟨some a,len,k,h1,fun h=> by cases h⟩
   | _=> simp[elems] at he
 obtain ⟨a,n,k,rfl,oA⟩:=hsl
 cases a with
 | none=>
   obtain ⟨rfl,rfl,rfl⟩:=oA rfl
   have q:=fun w=> Yc w none 0 k
   simp only[Option.isNone_none] at q
   unfold fD
   go_enter Tryz.func87,Tryz.ntmps87
   go_wp2
   refine bodyPost_ret (v:= .slice none 0 0) (by simp[results,Tryz.results87,go_sem]) rfl ?_
   exact ⟨_,rfl,c,fK (fun _=> rfl),hs,Ctx.le_refl _,St.refl _⟩
 | some a=>
   have q:=fun w=> Yc w (some a) n k
   simp only[Option.isNone_some] at q
   unfold fD
   go_enter Tryz.func87,Tryz.ntmps87
   refine Go.wp_seq_k fun K1 h1=> ?_
   have h1':=Lib.hid h1;clear h1
   go_wp2
   refine h1'.out _ _ ?_
   refine Go.wp_seq_k fun K2 h2=> ?_
   have h2':=Lib.hid h2;clear h2
   go_wp2
   refine h2'.out _ _ ?_
   obtain ⟨fr',yI,hx2⟩:=A2 x h v h' hc
   refine o8 (obj:=ob) (k:=A1) (base:=0) (fr:=[x,.bP [],.al true none [],x,.s (.bool false),.bP [],.bP [],.bP []]) hL (cf:=fun _ _ _=> none) (fun f vs h v h' hr=> by cases hr) (by kernel_rfl) ?_ hs yI ?_
   ·exact ⟨hx,cI.2 ⟨[],rfl,trivial⟩,fK (fun _=> rfl),hx,bF.2 ⟨rfl,rfl⟩,cI.2 ⟨[],rfl,trivial⟩,cI.2 ⟨[],rfl,trivial⟩,cI.2 ⟨[],rfl,trivial⟩,trivial⟩
   ·intro a1 c1 w1 p1 p2 p3 p4 p5
    obtain ⟨u,hu1,Ay⟩:=mZ hL p1 p2 (fn:=Tryz.f87) (rs:=[.t 2]) (by kernel_rfl) hx2
    exact ⟨p5,u,hu1,u,c1,rfl,Ay,p2,p3,p4⟩
theorem pQ {vs:List V} {h:Hp} {v:V} {h':Hp} (hc:dO vs h=some (v,h')):∃x,vs=[x]:=by
 unfold dO at hc
 split at hc
 ·exact ⟨_,rfl⟩
 ·cases hc
theorem vD {vs:List V} {h:Hp} {v:V} {h':Hp} (hr:dO vs h=some (v,h')) (base:Nat):Kp base h h':=by
 unfold dO at hr
 split at hr
 ·split at hr
  ·split at hr
   ·cases hr;exact Kp.refl _ _
   ·split at hr
    ·cases hr;exact Kp.append _ _ _
    ·cases hr
  ·cases hr
 ·cases hr
end Go.Proofs.YthplailfedobeaaGreat
