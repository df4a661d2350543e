/- Texts for DeviceTorn, part 1. Conditions: none. -/
import Derived.Test.YtannfageakbpmaaGreatCVc
import Derived.Test.YtannfageakbpmaaGreatProg
import Derived.KernelRfl
import Derived.ProofKit
import Derived.WalkKit
import Derived.WalkSpells
import Derived.Lib.Hide
set_option linter.unusedSimpArgs false
set_option linter.unusedVariables false
set_option linter.unusedSectionVars false
attribute [go_sem] Go.Vm.V.s.injEq Go.Value.bool.injEq List.append_assoc List.length_append Go.Vm.aK Go.Vm.ca Go.Vm.bu Go.Vm.bo Go.Vm.bJ Go.Vm.bp Nat.le_refl Nat.le_add_right Go.Vm.y9
namespace Go.Proofs.YtannfageakbpmaaGreat
open Go Go.Vm Go.Proofs
def ob :Nat→Bool:=fun t=>([47,71,97,101,104,133,138,143,146,191,1000006,1000009,1000011,1000013,1000015,1000017,1000020,1000021,1000024,1000030,1000032,1000033,1000035,1000037,1000041,1000043,1000044,1000046,1000047,1000049,1000050,1000061,1000062,1000064,1000065,1000066,1000073,1000077,1000089,1000090,1000091,1000095,1000102,1000109,1000120,1000151,1000152,1000153,1000155]:List Nat).any fun u=> t==u
def ob2 :Nat→Bool:=fun t=> ob t || ([4000030,5000030]:List Nat).any fun u=> t==u
def ob3 :Nat→Bool:=fun t=> ob t || ([41]:List Nat).any fun u=> t==u
def RA :Go.Vm.C:=(.loop (.seq (.seq (.af [gm 21 9,gm 22 8,ga 23 (.bin .num .lss) [.t 21,.t 22]]) (.cond (.t 23) .skip (.exit 0))) (.seq (.block 1 (.seq (.bL [gl 0 1 (gm 26 0),gl 0 1 (gm 27 9),gl 0 1 (ga 28 (.di (some 37)) [.t 26,.t 27]),gl 0 1 (ga 29 (.fa 37 4) [.t 28]),gl 0 1 (ga 30 (.ld (some 34)) [.t 29]),gl 0 1 (gm 31 0),gl 0 1 (gm 32 9),gl 0 1 (ga 33 (.di (some 37)) [.t 31,.t 32]),gl 0 1 (ga 34 (.fa 37 4) [.t 33]),gl 0 1 (ga 35 (.fa 34 0) [.t 34]),gl 0 1 (ga 36 (.ld none) [.t 35]),gl 0 1 (ga 37 (.bin .num .rem) [.t 36,kc 40]),gl 0 1 (ga 38 (.ie 8) [.t 37]),gl 0 1 (ga 39 (.ie 7) [.t 30,.t 38]),gl 0 1 (ga 40 (.dF 41 [ki,ki,ki,ku,(.st 31 [(z4 27),ku,(bC 25),kx,ki,ki,(bC 25),(.s (.bool false)),(.s (.bool false))]),(.al false (some 31) [])] [0,4]) [kc 1,.t 39]),gl 0 1 (ga 10 (.eJ (some 41) (.st 41 [ki,ki,ki,ku,(.st 31 [(z4 27),ku,(bC 25),kx,ki,ki,(bC 25),(.s (.bool false)),(.s (.bool false))]),(.al false (some 31) [])])) []),gl 1 2 (gn (.bd (some 41)) [.t 10,.t 40])]) (.seq (.seq (.af [gm 41 9,gm 42 8,ga 43 (.bin .num .sub) [.t 42,kc 1],ga 44 (.bin .num .eql) [.t 41,.t 43]]) (.cond (.t 44) (.seq (.bL [gl 0 2 (gm 45 7),gl 0 2 (ga 46 .aN [.t 45]),gl 0 2 (ga 47 (.fa 47 0) [.t 46]),gl 0 2 (ga 48 (.ld none) [.t 47]),gl 0 0 (gm 49 1),gl 0 1 (ga 50 (.call 10) [.t 49,kc 0,kc 2]),gl 0 1 (gm 51 2),gl 1 2 (ga 52 (.call 10) [.t 51,kc 0,kc 200]),gl 2 3 (ga 53 (.call 9) [.t 48,.t 50,.t 52])]) (.seq (.af [gm 54 7,ga 55 .aN [.t 54],ga 56 (.fa 47 0) [.t 55],ga 57 (.ld none) [.t 56],ga 58 (.call 11) [.t 57],gm 11 58]) (.seq (.af [gm 59 7,ga 60 .aN [.t 59],ga 61 (.fa 47 0) [.t 60],ga 62 (.ld none) [.t 61],ga 63 (.call 12) [.t 62],ga 64 (.CK 53 1) [.t 63],gm 12 64]) (.seq (.af [gm 65 7,ga 66 .aN [.t 65],ga 67 (.fa 47 0) [.t 66],ga 68 (.ld none) [.t 67],ga 69 (.ld (some 41)) [.t 10],ga 70 (.call 13) [.t 68,.t 69],gm 13 70]) (.seq (.seq (.af [gm 71 13,ga 72 (.bin .num .eql) [.t 71,kc 13]]) (.cond (.t 72) (.seq (.af [ga 73 (.call 14) [],gm 6 73]) .ret) .skip)) (.seq (.seq (.bL [gl 0 0 (gm 74 13),gl 0 0 (ga 75 (.bin .num .neq) [.t 74,kc 29]),gl 0 0 (gm 76 75),gl 0 0 (gw 76 false 77 .mv [.t 7]),gl 0 0 (gw 76 false 78 .aN [.t 77]),gl 0 0 (gw 76 false 79 (.fa 47 0) [.t 78]),gl 0 0 (gw 76 false 80 (.ld none) [.t 79]),gl 0 1 (gw 76 false 81 (.call 15) [.t 80]),gl 1 1 (gw 76 false 82 (.bin .num .neq) [.t 81,kc 0]),gl 1 1 (ga 83 .pick [.t 76,kb true,.t 82]),gl 1 1 (gm 84 83),gl 1 1 (gw 84 false 85 .mv [.t 11]),gl 1 1 (gw 84 false 86 (.bin .ptr .eql) [.t 85,(.c (.s (.pointer none)))]),gl 1 1 (ga 87 .pick [.t 84,kb true,.t 86]),gl 1 1 (gm 88 87),gl 1 1 (gw 88 false 89 .mv [.t 7]),gl 1 1 (gw 88 false 90 .aN [.t 89]),gl 1 1 (gw 88 false 91 (.fa 47 0) [.t 90]),gl 1 1 (gw 88 false 92 (.ld none) [.t 91]),gl 1 2 (gw 88 false 93 (.call 11) [.t 92]),gl 2 2 (gw 88 false 94 (.bin .ptr .eql) [.t 93,(.c (.s (.pointer none)))]),gl 2 2 (ga 95 .pick [.t 88,kb true,.t 94]),gl 2 2 (gm 96 95),gl 2 2 (gw 96 false 97 .mv [.t 7]),gl 2 2 (gw 96 false 98 .aN [.t 97]),gl 2 2 (gw 96 false 99 (.fa 47 0) [.t 98]),gl 2 2 (gw 96 false 100 (.ld none) [.t 99]),gl 2 3 (gw 96 false 101 (.call 11) [.t 100]),gl 3 4 (gw 96 false 102 (.call 16) [.t 101]),gl 4 5 (gw 96 false 103 .Fv [.t 102]),gl 2 4 (gw 96 false 104 .mv [.t 11]),gl 4 5 (gw 96 false 105 (.call 16) [.t 104]),gl 5 5 (gw 96 false 106 .Fv [.t 105]),gl 5 5 (gw 96 false 107 (.bin .num .neq) [.t 103,.t 106]),gl 5 5 (ga 108 .pick [.t 96,kb true,.t 107]),gl 5 5 (gm 109 108),gl 5 5 (gw 109 false 110 .mv [.t 7]),gl 5 5 (gw 109 false 111 .aN [.t 110]),gl 5 5 (gw 109 false 112 (.fa 47 0) [.t 111]),gl 5 5 (gw 109 false 113 (.ld none) [.t 112]),gl 5 6 (gw 109 false 114 (.call 12) [.t 113]),gl 6 6 (gw 109 false 115 (.CK 53 1) [.t 114]),gl 5 6 (gw 109 false 116 .mv [.t 12]),gl 6 6 (gw 109 false 117 (.bin .num .neq) [.t 115,.t 116]),gl 6 6 (ga 118 .pick [.t 109,kb true,.t 117])]) (.cond (.t 118) (.seq (.af [ga 6 .mv [kb false]]) .ret) .skip)) (.seq (.af [gm 119 7,ga 120 .aN [.t 119],ga 121 (.fa 47 0) [.t 120],ga 122 (.ld none) [.t 121],ga 123 (.ld (some 41)) [.t 10],ga 124 (.call 13) [.t 122,.t 123],ga 125 (.bin .num .eql) [.t 124,kc 0],gm 126 125,gw 126 true 127 .mv [.t 7],gw 126 true 128 .aN [.t 127],gw 126 true 129 (.fa 47 0) [.t 128],gw 126 true 130 (.ld none) [.t 129],gw 126 true 131 (.call 12) [.t 130],gw 126 true 132 (.CK 53 1) [.t 131],gw 126 true 133 .mv [.t 12],gw 126 true 134 (.bin .num .add) [.t 133,(.c (.s (.int .u64 1)))],gw 126 true 135 (.bin .num .eql) [.t 132,.t 134],ga 136 .pick [.t 126,.t 135,kb false],gm 137 136,gw 137 true 138 (.call 14) [],ga 139 .pick [.t 137,.t 138,kb false],gm 6 139]) .ret))))))) .skip)) (.af [gm 140 7,ga 141 .aN [.t 140],ga 142 (.fa 47 0) [.t 141],ga 143 (.ld none) [.t 142],ga 144 (.ld (some 41)) [.t 10],ga 145 (.call 13) [.t 143,.t 144]])))) (.af [gm 24 9,ga 25 (.bin .num .add) [.t 24,kc 1],gm 9 25]))))
def RB :Go.Vm.C:=(.seq (.af [ga 146 (.call 14) [],gm 6 146]) .ret)
def B3 :Go.Vm.C:=(.seq (.af [ga 6 .mv [kb false]]) (.seq (.af [ga 14 (.jf 25 [(.s (.int .u8 0)),(.s (.int .u8 0)),(.s (.int .u8 0)),(.s (.int .u8 0)),(.s (.int .u8 0)),(.s (.int .u8 0)),(.s (.int .u8 0)),(.s (.int .u8 0)),(.s (.int .u8 0)),(.s (.int .u8 0)),(.s (.int .u8 0)),(.s (.int .u8 0)),(.s (.int .u8 0)),(.s (.int .u8 0)),(.s (.int .u8 0)),(.s (.int .u8 0))] [0]) [(.c (.s (.int .u8 4)))],ga 15 (.call 6) [kc 0,kc 1,.t 14],gm 7 15]) (.seq (.seq (.af [gm 16 7,ga 17 (.bin .ptr .eql) [.t 16,(.c (.s (.pointer none)))]]) (.cond (.t 17) (.seq (.af [ga 6 .mv [kb false]]) .ret) .skip)) (.seq (.af [gm 18 0,ga 19 .len [.t 18],ga 20 .min [.t 19,kc 25],gm 8 20]) (.seq (.seq (.af [ga 9 .mv [kc 0]]) (.block 0 RA)) RB)))))
abbrev F3 :Go.Vm.Fn:=⟨147,B3,[(.t 6)],true⟩
theorem Xz :bH Tryz.prog ob Tryz.f3 true=some F3:=by kernel_rfl
theorem XA :B3.fits 147=true:=by kernel_rfl
def XB :Go.Vm.C:=(.loop (.seq (.seq (.af [gm 16 7,gm 17 6,ga 18 (.bin .num .lss) [.t 16,.t 17]]) (.cond (.t 18) .skip (.exit 0))) (.seq (.block 1 (.seq (.af [gm 21 5,ga 22 .aN [.t 21],ga 23 (.fa 47 0) [.t 22],ga 24 (.ld none) [.t 23],gm 25 7,ga 26 (.ig .u8) [.t 25],ga 27 (.jf 27 [(.s (.int .u8 0)),(.s (.int .u8 0)),(.s (.int .u8 0)),(.s (.int .u8 0))] [0,1]) [.t 26,(.c (.s (.int .u8 3)))],ga 28 (.dF 31 [(z4 27),ku,(bC 25),kx,ki,ki,(bC 25),(.s (.bool false)),(.s (.bool false))] [0,1,7]) [.t 27,(.c (.s (.int .u64 1))),kb true],ga 29 (.dF 41 [ki,ki,ki,ku,(.st 31 [(z4 27),ku,(bC 25),kx,ki,ki,(bC 25),(.s (.bool false)),(.s (.bool false))]),(.al false (some 31) [])] [0,4]) [kc 1,.t 28],ga 30 (.call 13) [.t 24,.t 29],ga 31 (.bin .num .eql) [.t 30,kc 29]]) (.cond (.t 31) (.seq (.af [ga 4 .mv [kb false]]) .ret) .skip))) (.af [gm 19 7,ga 20 (.bin .num .add) [.t 19,kc 1],gm 7 20]))))
def XC :Go.Vm.C:=(.loop (.seq (.seq (.af [gm 37 9,gm 38 1,ga 39 (.call 10) [.t 38,kc 1,kc 10],ga 40 (.bin .num .lss) [.t 37,.t 39]]) (.cond (.t 40) .skip (.exit 2))) (.seq (.block 3 (.seq (.af [gm 43 5,ga 44 .aN [.t 43],ga 45 (.fa 47 0) [.t 44],ga 46 (.ld none) [.t 45],ga 47 (.call 17) [.t 46]]) (.seq (.seq (.af [gm 48 5,ga 49 .aN [.t 48],ga 50 (.fa 47 0) [.t 49],ga 51 (.ld none) [.t 50],ga 52 (.call 18) [.t 51],ga 53 (.bin .num .neq) [.t 52,kc 2],gm 54 53,gw 54 false 55 .mv [.t 5],gw 54 false 56 .aN [.t 55],gw 54 false 57 (.fa 47 0) [.t 56],gw 54 false 58 (.ld none) [.t 57],gw 54 false 59 (.call 11) [.t 58],gw 54 false 60 (.bin .ptr .neq) [.t 59,(.c (.s (.pointer none)))],ga 61 .pick [.t 54,kb true,.t 60],gm 62 61,gw 62 false 63 .mv [.t 5],gw 62 false 64 .aN [.t 63],gw 62 false 65 (.fa 47 0) [.t 64],gw 62 false 66 (.ld none) [.t 65],gw 62 false 67 (.dF 41 [ki,ki,ki,ku,(.st 31 [(z4 27),ku,(bC 25),kx,ki,ki,(bC 25),(.s (.bool false)),(.s (.bool false))]),(.al false (some 31) [])] [0,3]) [kc 4,(.c (.s (.int .u64 1)))],gw 62 false 68 (.call 13) [.t 66,.t 67],gw 62 false 69 (.bin .num .neq) [.t 68,kc 29],ga 70 .pick [.t 62,kb true,.t 69],gm 71 70,gw 71 false 72 .mv [.t 5],gw 71 false 73 .aN [.t 72],gw 71 false 74 (.fa 47 0) [.t 73],gw 71 false 75 (.ld none) [.t 74],gw 71 false 76 (.call 15) [.t 75],gw 71 false 77 (.bin .num .neq) [.t 76,kc 0],ga 78 .pick [.t 71,kb true,.t 77],gm 79 78,gw 79 false 80 .mv [.t 5],gw 79 false 81 .aN [.t 80],gw 79 false 82 (.fa 47 0) [.t 81],gw 79 false 83 (.ld none) [.t 82],gw 79 false 84 (.call 15) [.t 83],gw 79 false 85 (.bin .num .neq) [.t 84,kc 14],ga 86 .pick [.t 79,kb true,.t 85]]) (.cond (.t 86) (.seq (.af [ga 4 .mv [kb false]]) .ret) .skip)) (.seq (.af [ga 87 (.fa 53 0) [.t 8],ga 88 (.ld none) [.t 87],ga 89 (.bin .num .add) [.t 88,(.c (.s (.int .u64 1)))],ga 90 (.fa 53 0) [.t 8],gn (.bd none) [.t 90,.t 89]]) (.seq (.bL [gl 0 0 (gm 91 5),gl 0 0 (ga 92 .aN [.t 91]),gl 0 0 (ga 93 (.fa 47 0) [.t 92]),gl 0 0 (ga 94 (.ld none) [.t 93]),gl 0 1 (ga 95 (.call 12) [.t 94]),gl 0 1 (ga 96 (.ld (some 53)) [.t 8]),gl 1 1 (ga 97 (.eqs 53 [(.i .u64),(.i .u64),(.i .u64),(.i .u8),(.i .u8),(.i .u8),(.i .u8),(.i .u8),(.i .u8),(.i .u8),(.i .u8),(.i .u8),(.i .u8),(.i .u8),(.i .u8),(.i .u8),(.i .u8),(.i .u8),(.i .u8),(.i .i64)] true) [.t 95,.t 96])]) (.cond (.t 97) (.seq (.af [ga 4 .mv [kb false]]) .ret) .skip)))))) (.af [gm 41 9,ga 42 (.bin .num .add) [.t 41,kc 1],gm 9 42]))))
def XD :Go.Vm.C:=(.seq (.af [ga 98 (.call 14) [],gm 4 98]) .ret)
def XE :Go.Vm.C:=(.seq (.af [gm 32 5,ga 33 .aN [.t 32],ga 34 (.fa 47 0) [.t 33],ga 35 (.ld none) [.t 34],ga 36 (.call 12) [.t 35],ga 8 (.eJ (some 53) (.st 53 [ku,ku,ku,(bC 25),ki])) [],gn (.bd (some 53)) [.t 8,.t 36]]) (.seq (.seq (.af [ga 9 .mv [kc 0]]) (.block 2 XC)) XD))
def B4 :Go.Vm.C:=(.seq (.af [ga 4 .mv [kb false]]) (.seq (.af [ga 10 (.jf 25 [(.s (.int .u8 0)),(.s (.int .u8 0)),(.s (.int .u8 0)),(.s (.int .u8 0)),(.s (.int .u8 0)),(.s (.int .u8 0)),(.s (.int .u8 0)),(.s (.int .u8 0)),(.s (.int .u8 0)),(.s (.int .u8 0)),(.s (.int .u8 0)),(.s (.int .u8 0)),(.s (.int .u8 0)),(.s (.int .u8 0)),(.s (.int .u8 0)),(.s (.int .u8 0))] [0]) [(.c (.s (.int .u8 8)))],ga 11 (.call 6) [kc 0,kc 1,.t 10],gm 5 11]) (.seq (.seq (.af [gm 12 5,ga 13 (.bin .ptr .eql) [.t 12,(.c (.s (.pointer none)))]]) (.cond (.t 13) (.seq (.af [ga 4 .mv [kb false]]) .ret) .skip)) (.seq (.af [gm 14 0,ga 15 (.call 10) [.t 14,kc 0,kc 7],gm 6 15]) (.seq (.seq (.af [ga 7 .mv [kc 0]]) (.block 0 XB)) XE)))))
abbrev F4 :Go.Vm.Fn:=⟨99,B4,[(.t 4)],true⟩
theorem XF :bH Tryz.prog ob Tryz.f4 true=some F4:=by kernel_rfl
def XG :Go.Vm.C:=(.loop (.seq (.seq (.af [gm 20 7,gm 21 0,ga 22 .len [.t 21],ga 23 (.bin .num .lss) [.t 20,.t 22],gm 24 23,gw 24 true 25 .mv [.t 7],gw 24 true 26 (.bin .num .lss) [.t 25,kc 30],ga 27 .pick [.t 24,.t 26,kb false]]) (.cond (.t 27) .skip (.exit 0))) (.seq (.block 1 (.seq (.bL [gl 0 1 (gm 30 0),gl 0 1 (gm 31 7),gl 0 1 (ga 32 (.di (some 37)) [.t 30,.t 31]),gl 0 1 (ga 33 (.fa 37 4) [.t 32]),gl 0 1 (ga 34 (.ld (some 34)) [.t 33]),gl 0 1 (gm 35 0),gl 0 1 (gm 36 7),gl 0 1 (ga 37 (.di (some 37)) [.t 35,.t 36]),gl 0 1 (ga 38 (.fa 37 4) [.t 37]),gl 0 1 (ga 39 (.fa 34 0) [.t 38]),gl 0 1 (ga 40 (.ld none) [.t 39]),gl 0 1 (ga 41 (.bin .num .rem) [.t 40,kc 40]),gl 0 1 (ga 42 (.ie 8) [.t 41]),gl 0 1 (ga 43 (.ie 7) [.t 34,.t 42]),gl 0 1 (ga 44 (.dF 41 [ki,ki,ki,ku,(.st 31 [(z4 27),ku,(bC 25),kx,ki,ki,(bC 25),(.s (.bool false)),(.s (.bool false))]),(.al false (some 31) [])] [0,4]) [kc 1,.t 43]),gl 0 1 (ga 8 (.eJ (some 41) (.st 41 [ki,ki,ki,ku,(.st 31 [(z4 27),ku,(bC 25),kx,ki,ki,(bC 25),(.s (.bool false)),(.s (.bool false))]),(.al false (some 31) [])])) []),gl 1 2 (gn (.bd (some 41)) [.t 8,.t 44])]) (.seq (.af [gm 45 5,ga 46 .aN [.t 45],ga 47 (.fa 47 0) [.t 46],ga 48 (.ld none) [.t 47],ga 49 (.call 19) [.t 48],gm 9 49]) (.seq (.af [gm 50 5,ga 51 .aN [.t 50],ga 52 (.fa 47 0) [.t 51],ga 53 (.ld none) [.t 52],ga 54 (.ld (some 41)) [.t 8],ga 55 (.call 13) [.t 53,.t 54],gm 10 55]) (.seq (.seq (.af [gm 56 10,ga 57 (.bin .num .eql) [.t 56,kc 13]]) (.cond (.t 57) (.seq (.seq (.af [gm 58 5,ga 59 .aN [.t 58],ga 60 (.fa 47 0) [.t 59],ga 61 (.ld none) [.t 60],ga 62 (.call 19) [.t 61],gm 63 9,ga 64 (.bin .num .neq) [.t 62,.t 63]]) (.cond (.t 64) (.seq (.af [ga 4 .mv [kb false]]) .ret) .skip)) (.exit 1)) .skip)) (.seq (.af [gm 65 6,ga 66 (.bin .num .add) [.t 65,kc 1],gm 6 66]) (.seq (.af [ga 11 .mv [kc 3]]) (.seq (.seq (.af [gm 67 6,ga 68 (.bin .num .rem) [.t 67,kc 8],ga 69 (.bin .num .eql) [.t 68,kc 0]]) (.cond (.t 69) (.af [ga 11 .mv [kc 6]]) .skip)) (.seq (.af [gm 70 10,ga 71 (.bin .num .neq) [.t 70,kc 0],gm 72 71,gw 72 false 73 .mv [.t 5],gw 72 false 74 .aN [.t 73],gw 72 false 75 (.fa 47 0) [.t 74],gw 72 false 76 (.ld none) [.t 75],gw 72 false 77 (.call 19) [.t 76],gw 72 false 78 .mv [.t 9],gw 72 false 79 .mv [.t 11],gw 72 false 80 (.bin .num .add) [.t 78,.t 79],gw 72 false 81 (.bin .num .neq) [.t 77,.t 80],ga 82 .pick [.t 72,kb true,.t 81],gm 83 82,gw 83 false 84 .mv [.t 5],gw 83 false 85 .aN [.t 84],gw 83 false 86 (.fa 47 0) [.t 85],gw 83 false 87 (.ld none) [.t 86],gw 83 false 88 (.call 12) [.t 87],gw 83 false 89 (.CK 53 1) [.t 88],gw 83 false 90 .mv [.t 6],gw 83 false 91 (.ig .u64) [.t 90],gw 83 false 92 (.bin .num .neq) [.t 89,.t 91],ga 93 .pick [.t 83,kb true,.t 92]]) (.cond (.t 93) (.seq (.af [ga 4 .mv [kb false]]) .ret) .skip)))))))))) (.af [gm 28 7,ga 29 (.bin .num .add) [.t 28,kc 1],gm 7 29]))))
def XH :Go.Vm.C:=(.seq (.af [gm 94 1,ga 95 (.call 10) [.t 94,kc 0,kc 2],gm 12 95]) (.seq (.af [gm 96 5,ga 97 .aN [.t 96],ga 98 (.fa 47 0) [.t 97],ga 99 (.ld none) [.t 98],ga 100 (.call 19) [.t 99],gm 13 100]) (.seq (.af [gm 101 5,ga 102 .aN [.t 101],ga 103 (.fa 47 0) [.t 102],ga 104 (.ld none) [.t 103],gm 105 12,ga 106 (.call 9) [.t 104,.t 105,kc 0]]) (.seq (.af [gm 107 5,ga 108 .aN [.t 107],ga 109 (.fa 47 0) [.t 108],ga 110 (.ld none) [.t 109],ga 111 (.dF 41 [ki,ki,ki,ku,(.st 31 [(z4 27),ku,(bC 25),kx,ki,ki,(bC 25),(.s (.bool false)),(.s (.bool false))]),(.al false (some 31) [])] [0,1,2,3]) [kc 2,kc 1,kc 0,(.c (.s (.int .u64 2)))],ga 112 (.call 13) [.t 110,.t 111],gm 14 112]) (.seq (.seq (.af [gm 113 14,ga 114 (.bin .num .neq) [.t 113,kc 1],gm 115 114,gw 115 false 116 .mv [.t 5],gw 115 false 117 .aN [.t 116],gw 115 false 118 (.fa 47 0) [.t 117],gw 115 false 119 (.ld none) [.t 118],gw 115 false 120 (.call 19) [.t 119],gw 115 false 121 .mv [.t 13],gw 115 false 122 (.bin .num .neq) [.t 120,.t 121],ga 123 .pick [.t 115,kb true,.t 122]]) (.cond (.t 123) (.seq (.af [ga 4 .mv [kb false]]) .ret) .skip)) (.seq (.af [gm 124 5,ga 125 .aN [.t 124],ga 126 (.fa 47 0) [.t 125],ga 127 (.ld none) [.t 126],ga 128 (.jf 27 [(.s (.int .u8 0)),(.s (.int .u8 0)),(.s (.int .u8 0)),(.s (.int .u8 0))] [0,1]) [(.c (.s (.int .u8 200))),(.c (.s (.int .u8 1)))],ga 129 (.dF 31 [(z4 27),ku,(bC 25),kx,ki,ki,(bC 25),(.s (.bool false)),(.s (.bool false))] [0,1,7]) [.t 128,(.c (.s (.int .u64 1))),kb true],ga 130 (.dF 41 [ki,ki,ki,ku,(.st 31 [(z4 27),ku,(bC 25),kx,ki,ki,(bC 25),(.s (.bool false)),(.s (.bool false))]),(.al false (some 31) [])] [0,4]) [kc 1,.t 129],ga 131 (.call 13) [.t 127,.t 130],gm 15 131]) (.seq (.seq (.af [gm 132 15,ga 133 (.bin .num .eql) [.t 132,kc 13]]) (.cond (.t 133) (.seq (.af [ga 134 (.call 14) [],gm 4 134]) .ret) .skip)) (.seq (.af [gm 135 15,ga 136 (.bin .num .eql) [.t 135,kc 29],gm 137 136,gw 137 true 138 .mv [.t 5],gw 137 true 139 .aN [.t 138],gw 137 true 140 (.fa 47 0) [.t 139],gw 137 true 141 (.ld none) [.t 140],gw 137 true 142 (.call 19) [.t 141],gw 137 true 143 .mv [.t 13],gw 137 true 144 .mv [.t 12],gw 137 true 145 (.bin .num .add) [.t 143,.t 144],gw 137 true 146 (.bin .num .eql) [.t 142,.t 145],ga 147 .pick [.t 137,.t 146,kb false],gm 148 147,gw 148 true 149 .mv [.t 5],gw 148 true 150 .aN [.t 149],gw 148 true 151 (.fa 47 0) [.t 150],gw 148 true 152 (.ld none) [.t 151],gw 148 true 153 (.call 18) [.t 152],gw 148 true 154 (.bin .num .eql) [.t 153,kc 2],ga 155 .pick [.t 148,.t 154,kb false],gm 156 155,gw 156 true 157 .mv [.t 5],gw 156 true 158 .aN [.t 157],gw 156 true 159 (.fa 47 0) [.t 158],gw 156 true 160 (.ld none) [.t 159],gw 156 true 161 (.call 12) [.t 160],gw 156 true 162 (.CK 53 1) [.t 161],gw 156 true 163 .mv [.t 6],gw 156 true 164 (.ig .u64) [.t 163],gw 156 true 165 (.bin .num .eql) [.t 162,.t 164],ga 166 .pick [.t 156,.t 165,kb false],gm 167 166,gw 167 true 168 (.call 14) [],ga 169 .pick [.t 167,.t 168,kb false],gm 4 169]) .ret))))))))
def B5 :Go.Vm.C:=(.seq (.af [ga 4 .mv [kb false]]) (.seq (.af [ga 16 (.jf 25 [(.s (.int .u8 0)),(.s (.int .u8 0)),(.s (.int .u8 0)),(.s (.int .u8 0)),(.s (.int .u8 0)),(.s (.int .u8 0)),(.s (.int .u8 0)),(.s (.int .u8 0)),(.s (.int .u8 0)),(.s (.int .u8 0)),(.s (.int .u8 0)),(.s (.int .u8 0)),(.s (.int .u8 0)),(.s (.int .u8 0)),(.s (.int .u8 0)),(.s (.int .u8 0))] [0]) [(.c (.s (.int .u8 2)))],ga 17 (.call 6) [kc 0,kc 1,.t 16],gm 5 17]) (.seq (.seq (.af [gm 18 5,ga 19 (.bin .ptr .eql) [.t 18,(.c (.s (.pointer none)))]]) (.cond (.t 19) (.seq (.af [ga 4 .mv [kb false]]) .ret) .skip)) (.seq (.af [ga 6 .mv [kc 0]]) (.seq (.seq (.af [ga 7 .mv [kc 0]]) (.block 0 XG)) XH)))))
abbrev F5 :Go.Vm.Fn:=⟨170,B5,[(.t 4)],true⟩
theorem XI :bH Tryz.prog ob Tryz.f5 true=some F5:=by kernel_rfl
def B6 :Go.Vm.C:=(.seq (.af [ga 5 (.box (some 25)) [.t 2],ga 6 .mv [(.c (.s (.pointer none)))]]) (.seq (.af [gm 11 0,gm 12 1,ga 13 (.ld (some 25)) [.t 5],ga 14 (.call 20) [.t 11,.t 12,.t 13],gm 10 14,ga 15 (.ext 0) [.t 10],ga 16 (.ext 1) [.t 10],gm 7 15,gm 8 16]) (.seq (.af [gm 17 0,gm 18 1,ga 19 (.ld (some 25)) [.t 5],ga 20 (.call 21) [.t 17,.t 18,.t 19],gm 9 20]) (.seq (.seq (.af [gm 21 7,ga 22 (.bin .ptr .eql) [.t 21,(.c (.s (.pointer none)))],gm 23 22,gw 23 false 24 .mv [.t 8],gw 23 false 25 (.bin .num .neq) [.t 24,kc 0],ga 26 .pick [.t 23,kb true,.t 25],gm 27 26,gw 27 false 28 .mv [.t 9],gw 27 false 29 (.bin .ptr .eql) [.t 28,(.c (.s (.pointer none)))],ga 30 .pick [.t 27,kb true,.t 29]]) (.cond (.t 30) (.seq (.af [ga 6 .mv [(.c (.s (.pointer none)))]]) .ret) .skip)) (.seq (.af [gm 31 7,gm 32 9,ga 33 (.dF 47 [(.s (.pointer none)),(.s (.pointer none)),(.s (.pointer none)),(.s (.pointer none))] [0,1]) [.t 31,.t 32],ga 34 (.box (some 47)) [.t 33],gm 6 34]) .ret)))))
abbrev F6 :Go.Vm.Fn:=⟨35,B6,[(.t 6)],false⟩
theorem XJ :bH Tryz.prog ob Tryz.f6 false=some F6:=by kernel_rfl
theorem XK :B6.fits 35=true:=by kernel_rfl
def B7 :Go.Vm.C:=(.seq (.af [ga 2 (.box (some 34)) [.t 0],ga 3 (.box (some 27)) [.t 1],ga 4 (.eJ (some 31) (.st 31 [(z4 27),ku,(bC 25),kx,ki,ki,(bC 25),(.s (.bool false)),(.s (.bool false))])) []]) (.seq (.af [ga 7 (.fa 34 6) [.t 2],ga 8 (.ld none) [.t 7],ga 9 (.bin .num .rem) [.t 8,(.c (.s (.int .u64 1099511627776)))],ga 10 (.bin .num .add) [(.c (.s (.int .u64 1))),.t 9],gm 5 10]) (.seq (.seq (.af [ga 11 (.fa 34 5) [.t 2],ga 12 (.ld none) [.t 11],ga 13 (.bin .num .rem) [.t 12,kc 4],ga 14 (.bin .num .eql) [.t 13,kc 3]]) (.cond (.t 14) (.seq (.af [ga 15 (.ld (some 27)) [.t 3],gm 16 5,ga 17 (.fa 34 5) [.t 2],ga 18 (.ld none) [.t 17],ga 19 (.bin .num .quo) [.t 18,kc 4],ga 20 (.bin .num .rem) [.t 19,kc 2],ga 21 (.bin .num .eql) [.t 20,kc 1],ga 22 (.dF 31 [(z4 27),ku,(bC 25),kx,ki,ki,(bC 25),(.s (.bool false)),(.s (.bool false))] [0,1,7,8]) [.t 15,.t 16,kb true,.t 21],gn (.bd (some 31)) [.t 4,.t 22]]) .ret) .skip)) (.seq (.af [ga 23 (.fa 34 3) [.t 2],ga 24 (.ld none) [.t 23],ga 25 (.call 10) [.t 24,kc 1,kc 32],gm 6 25]) (.seq (.bL [gl 0 5 (ga 26 (.ld (some 27)) [.t 3]),gl 0 5 (gm 27 5),gl 0 0 (ga 28 (.fa 34 1) [.t 2]),gl 0 0 (ga 29 (.ld none) [.t 28]),gl 0 1 (ga 30 (.call 22) [.t 29]),gl 0 1 (ga 31 (.fa 34 2) [.t 2]),gl 0 1 (ga 32 (.ld none) [.t 31]),gl 1 2 (ga 33 (.call 22) [.t 32]),gl 0 5 (gm 34 6),gl 0 2 (ga 35 (.fa 34 4) [.t 2]),gl 0 2 (ga 36 (.ld none) [.t 35]),gl 0 2 (gm 37 6),gl 0 2 (ga 38 (.bin .num .sub) [.t 37,kc 1]),gl 2 3 (ga 39 (.call 10) [.t 36,kc 0,.t 38]),gl 0 4 (ga 40 (.ja none [] []) []),gl 0 3 (ga 41 (.fa 34 7) [.t 2]),gl 0 3 (ga 42 (.ld none) [.t 41]),gl 3 4 (ga 43 (.call 23) [.t 42,kc 64]),gl 4 5 (ga 44 (.app none 1) [.t 40,.t 43]),gl 5 5 (ga 45 (.dF 31 [(z4 27),ku,(bC 25),kx,ki,ki,(bC 25),(.s (.bool false)),(.s (.bool false))] [0,1,2,6,4,5,3]) [.t 26,.t 27,.t 30,.t 33,.t 34,.t 39,.t 44]),gl 5 6 (gn (.bd (some 31)) [.t 4,.t 45])]) .ret)))))
abbrev F7 :Go.Vm.Fn:=⟨46,B7,[(.cell 4 (some 31))],true⟩
theorem XL :bH Tryz.prog ob Tryz.f7 true=some F7:=by kernel_rfl
theorem XM :B7.fits 46=true:=by kernel_rfl
def B8 :Go.Vm.C:=(.seq (.af [ga 2 (.eJ (some 27) (z4 27)) []]) (.seq (.af [gm 3 0,ga 4 (.call 10) [.t 3,kc 0,kc 255],ga 5 (.ig .u8) [.t 4],ga 6 (.jf 27 [(.s (.int .u8 0)),(.s (.int .u8 0)),(.s (.int .u8 0)),(.s (.int .u8 0))] [0,1]) [.t 5,(.c (.s (.int .u8 7)))],gn (.bd (some 27)) [.t 2,.t 6]]) .ret))
abbrev F8 :Go.Vm.Fn:=⟨7,B8,[(.cell 2 (some 27))],true⟩
theorem XN :bH Tryz.prog ob Tryz.f8 true=some F8:=by kernel_rfl
theorem XO :B8.fits 7=true:=by kernel_rfl
def B9 :Go.Vm.C:=(.af [gm 6 0,gm 7 0,gm 8 1,ga 9 .max [.t 8,kc (-1)],gm 10 2,ga 11 .aN [.t 6],ga 12 (.fa 71 8) [.t 11],gn (.bd none) [.t 12,.t 9],ga 13 .aN [.t 7],ga 14 (.fa 71 9) [.t 13],gn (.bd none) [.t 14,.t 10]])
abbrev F9 :Go.Vm.Fn:=⟨15,B9,[],false⟩
theorem XP :bH Tryz.prog ob Tryz.f9 false=some F9:=by kernel_rfl
theorem XQ :B9.fits 15=true:=by kernel_rfl
def B10 :Go.Vm.C:=(.seq (.af [ga 6 .mv [kc 0]]) (.seq (.seq (.af [gm 7 0,gm 8 1,ga 9 (.bin .num .geq) [.t 7,.t 8],gm 10 9,gw 10 true 11 .mv [.t 0],gw 10 true 12 .mv [.t 2],gw 10 true 13 (.bin .num .leq) [.t 11,.t 12],ga 14 .pick [.t 10,.t 13,kb false]]) (.cond (.t 14) (.seq (.af [gm 15 0,gm 6 15]) .ret) .skip)) (.seq (.af [gm 16 0,gm 17 2,gm 18 1,ga 19 (.bin .num .sub) [.t 17,.t 18],ga 20 (.bin .num .add) [.t 19,kc 1],ga 21 (.bin .num .rem) [.t 16,.t 20],gm 0 21]) (.seq (.seq (.af [gm 22 0,ga 23 (.bin .num .lss) [.t 22,kc 0]]) (.cond (.t 23) (.af [gm 24 0,gm 25 2,ga 26 (.bin .num .add) [.t 24,.t 25],gm 27 1,ga 28 (.bin .num .sub) [.t 26,.t 27],ga 29 (.bin .num .add) [.t 28,kc 1],gm 0 29]) .skip)) (.seq (.af [gm 30 1,gm 31 0,ga 32 (.bin .num .add) [.t 30,.t 31],gm 6 32]) .ret)))))
abbrev F10 :Go.Vm.Fn:=⟨33,B10,[(.t 6)],true⟩
theorem RD :bH Tryz.prog ob Tryz.f10 true=some F10:=by kernel_rfl
theorem RE :B10.fits 33=true:=by kernel_rfl
def B11 :Go.Vm.C:=(.seq (.af [ga 2 .mv [(.c (.s (.pointer none)))]]) (.seq (.seq (.af [gm 3 0,ga 4 .aN [.t 3],ga 5 (.fa 71 3) [.t 4],ga 6 (.ld none) [.t 5],ga 7 (.bin .num .neq) [.t 6,kc 1]]) (.cond (.t 7) (.seq (.af [ga 2 .mv [(.c (.s (.pointer none)))]]) .ret) .skip)) (.seq (.af [gm 8 0,ga 9 .aN [.t 8],ga 10 (.fa 71 4) [.t 9],ga 11 (.ld none) [.t 10],ga 12 (.call 24) [.t 11],gm 2 12]) .ret)))
abbrev F11 :Go.Vm.Fn:=⟨13,B11,[(.t 2)],false⟩
theorem RG :bH Tryz.prog ob Tryz.f11 false=some F11:=by kernel_rfl
theorem RH :B11.fits 13=true:=by kernel_rfl
def B12 :Go.Vm.C:=(.seq (.af [ga 2 (.eJ (some 53) (.st 53 [ku,ku,ku,(bC 25),ki])) []]) (.seq (.af [gm 3 0,ga 4 .aN [.t 3],ga 5 (.fa 71 6) [.t 4],ga 6 (.ld (some 53)) [.t 5],gn (.bd (some 53)) [.t 2,.t 6]]) .ret))
abbrev F12 :Go.Vm.Fn:=⟨7,B12,[(.cell 2 (some 53))],true⟩
theorem RI :bH Tryz.prog ob Tryz.f12 true=some F12:=by kernel_rfl
theorem RJ :B12.fits 7=true:=by kernel_rfl
def B13 :Go.Vm.C:=(.seq (.af [ga 3 (.box (some 41)) [.t 1],ga 4 .mv [kc 0]]) (.seq (.seq (.af [gm 11 0,ga 12 (.call 25) [.t 11],gm 5 12]) (.seq (.af [gm 13 5,ga 14 (.bin .num .neq) [.t 13,kc 0]]) (.cond (.t 14) (.seq (.af [gm 15 5,gm 4 15]) .ret) .skip))) (.seq (.seq (.af [gm 16 0,ga 17 .aN [.t 16],ga 18 (.fa 71 4) [.t 17],ga 19 (.ld none) [.t 18],ga 20 (.ld (some 41)) [.t 3],ga 21 (.call 26) [.t 19,.t 20],gm 6 21]) (.seq (.af [gm 22 6,ga 23 (.bin .num .neq) [.t 22,kc 0]]) (.cond (.t 23) (.seq (.af [gm 24 6,gm 4 24]) .ret) .skip))) (.seq (.af [gm 26 0,ga 27 .aN [.t 26],ga 28 (.fa 71 2) [.t 27],ga 29 (.ld (some 25)) [.t 28],gm 30 0,ga 31 .aN [.t 30],ga 32 (.fa 71 6) [.t 31],ga 33 (.fa 53 1) [.t 32],ga 34 (.ld none) [.t 33],ga 35 (.bin .num .add) [.t 34,(.c (.s (.int .u64 1)))],gm 36 0,ga 37 .aN [.t 36],ga 38 (.fa 71 6) [.t 37],ga 39 (.fa 53 3) [.t 38],ga 40 (.ld (some 25)) [.t 39],ga 41 (.ld (some 41)) [.t 3],ga 42 (.call 27) [.t 29,.t 35,.t 40,.t 41],gm 25 42,ga 43 (.ext 0) [.t 25],ga 44 (.ext 1) [.t 25],gm 7 43,gm 8 44]) (.seq (.bL [gl 0 1 (gm 46 0),gl 0 1 (ga 47 .aN [.t 46]),gl 0 1 (ga 48 (.fa 71 6) [.t 47]),gl 0 1 (ga 49 (.ld (some 53)) [.t 48]),gl 0 1 (gm 50 0),gl 0 1 (ga 51 .aN [.t 50]),gl 0 1 (ga 52 (.fa 71 6) [.t 51]),gl 0 1 (ga 53 (.fa 53 3) [.t 52]),gl 0 1 (ga 54 (.ld (some 25)) [.t 53]),gl 0 1 (gm 55 7),gl 0 1 (ga 56 (.ie 29) [.t 54,.t 55]),gl 0 1 (ga 57 (.ie 28) [.t 49,.t 56]),gl 0 1 (gm 45 57),gl 0 1 (ga 58 (.ext 0) [.t 45]),gl 0 2 (ga 59 (.ext 1) [.t 45]),gl 0 1 (ga 9 (.eJ (some 53) (.st 53 [ku,ku,ku,(bC 25),ki])) []),gl 1 2 (gn (.bd (some 53)) [.t 9,.t 58]),gl 2 2 (gm 10 59)]) (.seq (.seq (.af [gm 60 10,ga 61 (.un .not) [.t 60]]) (.cond (.t 61) (.seq (.af [ga 4 .mv [kc 31]]) .ret) .skip)) (.seq (.seq (.af [gm 62 0,gm 63 0,ga 64 .aN [.t 63],ga 65 (.fa 71 6) [.t 64],ga 66 (.ld (some 53)) [.t 65],ga 67 (.call 31) [.t 66],gm 68 7,ga 69 (.call 30) [.t 62,.t 67,.t 68],ga 70 (.un .not) [.t 69],gm 71 70,gw 71 false 72 .mv [.t 0],gw 71 false 73 (.call 32) [.t 72],gw 71 false 74 (.un .not) [.t 73],ga 75 .pick [.t 71,kb true,.t 74]]) (.cond (.t 75) (.seq (.af [ga 4 .mv [kc 29]]) .ret) .skip)) (.seq (.af [gm 76 0,ga 77 (.ld (some 53)) [.t 9],ga 78 .aN [.t 76],ga 79 (.fa 71 6) [.t 78],gn (.bd (some 53)) [.t 79,.t 77]]) (.seq (.af [gm 80 0,ga 81 .aN [.t 80],ga 82 (.fa 71 4) [.t 81],ga 83 (.ld none) [.t 82],ga 84 (.ld (some 41)) [.t 3],ga 85 (.call 33) [.t 83,.t 84]]) (.seq (.seq (.af [gm 86 0,ga 87 .aN [.t 86],ga 88 (.fa 71 6) [.t 87],ga 89 (.ld (some 53)) [.t 88],ga 90 (.call 34) [.t 89],ga 91 (.bin .num .eql) [.t 90,kc 8],gm 92 91,gw 92 true 93 .mv [.t 0],gw 92 true 94 (.call 35) [.t 93],gw 92 true 95 (.un .not) [.t 94],ga 96 .pick [.t 92,.t 95,kb false]]) (.cond (.t 96) (.seq (.af [ga 4 .mv [kc 29]]) .ret) .skip)) (.seq (.af [ga 4 .mv [kc 0]]) .ret)))))))))))
abbrev F13 :Go.Vm.Fn:=⟨97,B13,[(.t 4)],false⟩
theorem RK :bH Tryz.prog ob Tryz.f13 false=some F13:=by kernel_rfl
theorem RL :B13.fits 97=true:=by kernel_rfl
def B14 :Go.Vm.C:=(.seq (.af [ga 0 .mv [kb false]]) (.seq (.af [ga 8 (.jf 25 [(.s (.int .u8 0)),(.s (.int .u8 0)),(.s (.int .u8 0)),(.s (.int .u8 0)),(.s (.int .u8 0)),(.s (.int .u8 0)),(.s (.int .u8 0)),(.s (.int .u8 0)),(.s (.int .u8 0)),(.s (.int .u8 0)),(.s (.int .u8 0)),(.s (.int .u8 0)),(.s (.int .u8 0)),(.s (.int .u8 0)),(.s (.int .u8 0)),(.s (.int .u8 0))] [0]) [(.c (.s (.int .u8 1)))],ga 9 (.call 6) [kc 0,kc 1,.t 8],gm 1 9]) (.seq (.seq (.af [gm 10 1,ga 11 (.bin .ptr .eql) [.t 10,(.c (.s (.pointer none)))]]) (.cond (.t 11) (.seq (.af [ga 0 .mv [kb false]]) .ret) .skip)) (.seq (.af [ga 12 (.jf 27 [(.s (.int .u8 0)),(.s (.int .u8 0)),(.s (.int .u8 0)),(.s (.int .u8 0))] [0]) [(.c (.s (.int .u8 1)))],ga 13 (.dF 31 [(z4 27),ku,(bC 25),kx,ki,ki,(bC 25),(.s (.bool false)),(.s (.bool false))] [0,1,7]) [.t 12,(.c (.s (.int .u64 1))),kb true],ga 14 (.dF 41 [ki,ki,ki,ku,(.st 31 [(z4 27),ku,(bC 25),kx,ki,ki,(bC 25),(.s (.bool false)),(.s (.bool false))]),(.al false (some 31) [])] [0,4]) [kc 1,.t 13],ga 2 (.eJ (some 41) (.st 41 [ki,ki,ki,ku,(.st 31 [(z4 27),ku,(bC 25),kx,ki,ki,(bC 25),(.s (.bool false)),(.s (.bool false))]),(.al false (some 31) [])])) [],gn (.bd (some 41)) [.t 2,.t 14]]) (.seq (.af [gm 15 1,ga 16 .aN [.t 15],ga 17 (.fa 47 0) [.t 16],ga 18 (.ld none) [.t 17],ga 19 (.call 9) [.t 18,kc 2,kc 0]]) (.seq (.af [gm 20 1,ga 21 .aN [.t 20],ga 22 (.fa 47 0) [.t 21],ga 23 (.ld none) [.t 22],ga 24 (.ld (some 41)) [.t 2],ga 25 (.call 13) [.t 23,.t 24],gm 3 25]) (.seq (.af [gm 26 1,ga 27 .aN [.t 26],ga 28 (.fa 47 0) [.t 27],ga 29 (.ld none) [.t 28],ga 30 (.call 15) [.t 29],gm 4 30]) (.seq (.af [gm 31 1,ga 32 .aN [.t 31],ga 33 (.fa 47 0) [.t 32],ga 34 (.ld none) [.t 33],ga 35 (.call 12) [.t 34],ga 36 (.CK 53 1) [.t 35],gm 5 36]) (.seq (.af [gm 37 1,ga 38 .aN [.t 37],ga 39 (.fa 47 0) [.t 38],ga 40 (.ld none) [.t 39],ga 41 (.ld (some 41)) [.t 2],ga 42 (.call 13) [.t 40,.t 41],gm 6 42]) (.seq (.af [gm 43 1,ga 44 .aN [.t 43],ga 45 (.fa 47 0) [.t 44],ga 46 (.ld none) [.t 45],ga 47 (.call 17) [.t 46]]) (.seq (.af [gm 48 1,ga 49 .aN [.t 48],ga 50 (.fa 47 0) [.t 49],ga 51 (.ld none) [.t 50],ga 52 (.call 15) [.t 51],gm 7 52]) (.seq (.af [gm 53 3,ga 54 (.bin .num .eql) [.t 53,kc 29],gm 55 54,gw 55 true 56 .mv [.t 4],gw 55 true 57 (.bin .num .eql) [.t 56,kc 0],ga 58 .pick [.t 55,.t 57,kb false],gm 59 58,gw 59 true 60 .mv [.t 5],gw 59 true 61 (.bin .num .eql) [.t 60,(.c ku)],ga 62 .pick [.t 59,.t 61,kb false],gm 63 62,gw 63 true 64 .mv [.t 6],gw 63 true 65 (.bin .num .eql) [.t 64,kc 0],ga 66 .pick [.t 63,.t 65,kb false],gm 67 66,gw 67 true 68 .mv [.t 7],gw 67 true 69 (.bin .num .eql) [.t 68,kc 0],ga 70 .pick [.t 67,.t 69,kb false],gm 71 70,gw 71 true 72 .mv [.t 1],gw 71 true 73 .aN [.t 72],gw 71 true 74 (.fa 47 0) [.t 73],gw 71 true 75 (.ld none) [.t 74],gw 71 true 76 (.call 12) [.t 75],gw 71 true 77 (.CK 53 1) [.t 76],gw 71 true 78 (.bin .num .eql) [.t 77,(.c (.s (.int .u64 1)))],ga 79 .pick [.t 71,.t 78,kb false],gm 80 79,gw 80 true 81 .mv [.t 1],gw 80 true 82 .aN [.t 81],gw 80 true 83 (.fa 47 0) [.t 82],gw 80 true 84 (.ld none) [.t 83],gw 80 true 85 (.call 11) [.t 84],gw 80 true 86 (.bin .ptr .neq) [.t 85,(.c (.s (.pointer none)))],ga 87 .pick [.t 80,.t 86,kb false],gm 0 87]) .ret))))))))))))
abbrev F14 :Go.Vm.Fn:=⟨88,B14,[(.t 0)],true⟩
theorem RM :bH Tryz.prog ob Tryz.f14 true=some F14:=by kernel_rfl
theorem RN :B14.fits 88=true:=by kernel_rfl
def B15 :Go.Vm.C:=(.seq (.af [ga 2 .mv [kc 0]]) (.seq (.seq (.af [gm 5 0,ga 6 .aN [.t 5],ga 7 (.fa 71 3) [.t 6],ga 8 (.ld none) [.t 7]]) (.block 0 (.seq (.af [ga 10 (.bin .num .eql) [.t 8,kc 1],gm 9 10]) (.cond (.t 9) (.seq (.af [ga 2 .mv [kc 14]]) .ret) (.seq (.af [ga 12 (.bin .num .eql) [.t 8,kc 3],gm 11 12]) (.cond (.t 11) (.seq (.af [ga 2 .mv [kc 28]]) .ret) .skip)))))) (.seq (.af [gm 14 0,ga 15 .aN [.t 14],ga 16 (.fa 71 6) [.t 15],ga 17 (.ld (some 53)) [.t 16],ga 18 (.call 36) [.t 17],gm 13 18,ga 19 (.ext 0) [.t 13],ga 20 (.ext 1) [.t 13],ga 3 (.eJ (some 53) (.st 53 [ku,ku,ku,(bC 25),ki])) [],gn (.bd (some 53)) [.t 3,.t 19],gm 4 20]) (.seq (.seq (.af [gm 21 4,ga 22 (.un .not) [.t 21]]) (.cond (.t 22) (.seq (.af [ga 2 .mv [kc 31]]) .ret) .skip)) (.seq (.af [gm 23 0,ga 24 (.ld (some 53)) [.t 3],ga 25 .aN [.t 23],ga 26 (.fa 71 6) [.t 25],gn (.bd (some 53)) [.t 26,.t 24]]) (.seq (.seq (.af [gm 28 0,gm 29 0,ga 30 (.call 37) [.t 29],gm 27 30,ga 31 (.ext 0) [.t 27],ga 32 (.ext 1) [.t 27],ga 33 .aN [.t 28],ga 34 (.fa 71 4) [.t 33],gn (.bd none) [.t 34,.t 31],gm 4 32]) (.seq (.af [gm 35 4,ga 36 (.un .not) [.t 35]]) (.cond (.t 36) (.seq (.af [gm 37 0,ga 38 .aN [.t 37],ga 39 (.fa 71 3) [.t 38],gn (.bd none) [.t 39,kc 3]]) (.seq (.af [ga 2 .mv [kc 28]]) .ret)) .skip))) (.seq (.af [gm 40 0,ga 41 .aN [.t 40],ga 42 (.fa 71 3) [.t 41],gn (.bd none) [.t 42,kc 1]]) (.seq (.seq (.af [gm 43 0,ga 44 .aN [.t 43],ga 45 (.fa 71 6) [.t 44],ga 46 (.ld (some 53)) [.t 45],ga 47 (.call 34) [.t 46],ga 48 (.bin .num .eql) [.t 47,kc 8],gm 49 48,gw 49 true 50 .mv [.t 0],gw 49 true 51 (.call 35) [.t 50],gw 49 true 52 (.un .not) [.t 51],ga 53 .pick [.t 49,.t 52,kb false]]) (.cond (.t 53) (.seq (.af [ga 2 .mv [kc 29]]) .ret) .skip)) (.seq (.af [ga 2 .mv [kc 0]]) .ret)))))))))
abbrev F15 :Go.Vm.Fn:=⟨54,B15,[(.t 2)],false⟩
theorem RO :bH Tryz.prog ob Tryz.f15 false=some F15:=by kernel_rfl
theorem RP :B15.fits 54=true:=by kernel_rfl
def MM :Go.Vm.C:=(.loop (.seq (.af [ga 58 (.bin .num .lss) [.t 57,.t 56]]) (.seq (.cond (.t 58) .skip (.exit 2)) (.seq (.block 3 (.seq (.af [ga 59 (.di (some 31)) [.t 55,.t 57],ga 60 (.ld (some 31)) [.t 59],ga 12 (.eJ (some 31) (.st 31 [(z4 27),ku,(bC 25),kx,ki,ki,(bC 25),(.s (.bool false)),(.s (.bool false))])) [],gn (.bd (some 31)) [.t 12,.t 60]]) (.seq (.af [ga 62 (.ld (some 31)) [.t 12],ga 63 (.call 42) [.t 62],gm 61 63,ga 64 (.ext 0) [.t 61],ga 65 (.ext 1) [.t 61],gm 13 64,gm 14 65]) (.af [gm 66 5,gm 67 13,ga 68 (.app none 1) [.t 66,.t 67],gm 5 68])))) (.af [ga 69 (.bin .num .add) [.t 57,kc 1],gm 57 69])))))
def MN :Go.Vm.C:=(.loop (.seq (.af [ga 28 (.bin .num .lss) [.t 27,kc 16]]) (.seq (.cond (.t 28) .skip (.exit 0)) (.seq (.block 1 (.seq (.af [gm 29 27,gm 6 29]) (.seq (.af [gm 31 0,gm 32 6,ga 33 (.call 39) [.t 31,.t 32],gm 30 33,ga 34 (.ext 0) [.t 30],ga 35 (.ext 1) [.t 30],ga 36 (.ext 2) [.t 30],gm 7 34,gm 8 35,gm 9 36]) (.seq (.af [gm 37 0,gm 38 6,ga 39 (.call 40) [.t 37,.t 38],gm 10 39]) (.seq (.af [gm 40 5,gm 41 7,ga 42 (.ig .u8) [.t 41],ga 43 (.ja none [(.s (.int .u8 0))] [0]) [.t 42],ga 44 (.app none 1) [.t 40,.t 43],gm 45 8,ga 46 (.call 41) [.t 45],ga 47 (.app none 1) [.t 44,.t 46],gm 48 9,ga 49 (.ig .u8) [.t 48],gm 50 10,ga 51 .len [.t 50],ga 52 (.ig .u8) [.t 51],ga 53 (.ja none [(.s (.int .u8 0)),(.s (.int .u8 0))] [0,1]) [.t 49,.t 52],ga 54 (.app none 1) [.t 47,.t 53],gm 5 54]) (.seq (.af [gm 55 10,ga 56 .len [.t 55],ga 57 .mv [kc 0]]) (.block 2 MM))))))) (.af [ga 70 (.bin .num .add) [.t 27,kc 1],gm 27 70])))))
def MO :Go.Vm.C:=(.seq (.af [gm 71 5,gm 2 71]) .ret)
def B16 :Go.Vm.C:=(.seq (.af [ga 2 .mv [(.c (.al true none []))]]) (.seq (.seq (.af [gm 15 0,ga 16 (.bin .ptr .eql) [.t 15,(.c (.s (.pointer none)))]]) (.cond (.t 16) (.seq (.af [ga 2 .mv [(.c (.al true none []))]]) .ret) .skip)) (.seq (.af [gm 18 0,ga 19 (.call 38) [.t 18],gm 17 19,ga 20 (.ext 0) [.t 17],ga 21 (.ext 1) [.t 17],gm 3 20,gm 4 21]) (.seq (.af [gm 22 3,ga 23 (.ig .u8) [.t 22],gm 24 4,ga 25 (.ig .u8) [.t 24],ga 26 (.ja none [(.s (.int .u8 0)),(.s (.int .u8 0))] [0,1]) [.t 23,.t 25],gm 5 26]) (.seq (.seq (.af [ga 27 .mv [kc 0]]) (.block 0 MN)) MO)))))
abbrev F16 :Go.Vm.Fn:=⟨72,B16,[(.t 2)],true⟩
theorem RQ :bH Tryz.prog ob Tryz.f16 true=some F16:=by kernel_rfl
theorem RR :B16.fits 72=true:=by kernel_rfl
def B17 :Go.Vm.C:=(.seq (.af [gm 2 0,ga 3 .aN [.t 2],ga 4 (.fa 71 3) [.t 3],ga 5 (.ld none) [.t 4],ga 6 (.bin .num .eql) [.t 5,kc 1]]) (.cond (.t 6) (.af [gm 7 0,ga 8 (.call 43) [.t 7,kc 0]]) .skip))
abbrev F17 :Go.Vm.Fn:=⟨9,B17,[],false⟩
theorem RS :bH Tryz.prog ob Tryz.f17 false=some F17:=by kernel_rfl
theorem RT :B17.fits 9=true:=by kernel_rfl
def B18 :Go.Vm.C:=(.seq (.af [ga 2 .mv [kc 0]]) (.seq (.af [gm 3 0,ga 4 .aN [.t 3],ga 5 (.fa 71 3) [.t 4],ga 6 (.ld none) [.t 5],gm 2 6]) .ret))
abbrev F18 :Go.Vm.Fn:=⟨7,B18,[(.t 2)],true⟩
theorem RU :bH Tryz.prog ob Tryz.f18 true=some F18:=by kernel_rfl
def B19 :Go.Vm.C:=(.seq (.af [ga 2 .mv [kc 0]]) (.seq (.af [gm 3 0,ga 4 .aN [.t 3],ga 5 (.fa 71 7) [.t 4],ga 6 (.ld none) [.t 5],gm 2 6]) .ret))
abbrev F19 :Go.Vm.Fn:=⟨7,B19,[(.t 2)],true⟩
theorem RX :bH Tryz.prog ob Tryz.f19 true=some F19:=by kernel_rfl
def B20 :Go.Vm.C:=(.seq (.af [ga 5 (.box (some 25)) [.t 2],ga 6 .mv [(.c (.s (.pointer none)))],ga 7 .mv [kc 0]]) (.seq (.af [gm 9 0,gm 10 1,ga 11 (.call 44) [.t 9,.t 10],gm 8 11]) (.seq (.seq (.af [gm 12 8,ga 13 (.bin .ptr .eql) [.t 12,(.c (.s (.pointer none)))]]) (.cond (.t 13) (.seq (.af [ga 6 .mv [(.c (.s (.pointer none)))],ga 7 .mv [kc 1]]) .ret) .skip)) (.seq (.af [gm 14 0,gm 15 1,ga 16 (.ld (some 25)) [.t 5],gm 17 0,ga 18 (.call 45) [.t 16,.t 17],gm 19 8,ga 20 (.call 46) [],ga 21 (.dF 71 [ki,ki,(bC 25),ki,(.s (.pointer none)),(.s (.pointer none)),(.st 53 [ku,ku,ku,(bC 25),ki]),ki,ki,ki] [0,1,2,3,4,5,8]) [.t 14,.t 15,.t 18,kc 1,.t 19,.t 20,kc (-1)],ga 22 (.box (some 71)) [.t 21],gm 6 22,ga 7 .mv [kc 0]]) .ret))))
abbrev F20 :Go.Vm.Fn:=⟨23,B20,[(.t 6),(.t 7)],false⟩
theorem RY :bH Tryz.prog ob Tryz.f20 false=some F20:=by kernel_rfl
theorem RZ :B20.fits 23=true:=by kernel_rfl
def B21 :Go.Vm.C:=(.seq (.af [ga 5 (.box (some 25)) [.t 2],ga 6 .mv [(.c (.s (.pointer none)))]]) (.seq (.af [gm 8 0,gm 9 1,ga 10 (.call 47) [.t 8,.t 9],gm 7 10]) (.seq (.seq (.af [gm 11 7,ga 12 (.bin .ptr .eql) [.t 11,(.c (.s (.pointer none)))]]) (.cond (.t 12) (.seq (.af [ga 6 .mv [(.c (.s (.pointer none)))]]) .ret) .skip)) (.seq (.af [gm 13 0,gm 14 1,ga 15 (.ld (some 25)) [.t 5],gm 16 0,ga 17 (.call 48) [.t 15,.t 16],gm 18 7,ga 19 (.call 49) [],ga 20 (.dF 97 [ki,ki,(bC 25),ki,(.s (.pointer none)),(.s (.pointer none)),(.st 53 [ku,ku,ku,(bC 25),ki]),ki,ki,ki] [0,1,2,3,4,5,7]) [.t 13,.t 14,.t 17,kc 1,.t 18,.t 19,kc (-1)],ga 21 (.box (some 97)) [.t 20],gm 6 21]) .ret))))
abbrev F21 :Go.Vm.Fn:=⟨22,B21,[(.t 6)],false⟩
theorem R0 :bH Tryz.prog ob Tryz.f21 false=some F21:=by kernel_rfl
theorem R1 :B21.fits 22=true:=by kernel_rfl
def B22 :Go.Vm.C:=(.seq (.af [ga 2 (.eJ (some 25) (bC 25)) []]) (.seq (.af [gm 3 0,ga 4 (.ig .u8) [.t 3],gm 5 0,ga 6 (.bin .num .shr) [.t 5,(.c (.s (.int .u64 8)))],ga 7 (.ig .u8) [.t 6],ga 8 (.jf 25 [(.s (.int .u8 0)),(.s (.int .u8 0)),(.s (.int .u8 0)),(.s (.int .u8 0)),(.s (.int .u8 0)),(.s (.int .u8 0)),(.s (.int .u8 0)),(.s (.int .u8 0)),(.s (.int .u8 0)),(.s (.int .u8 0)),(.s (.int .u8 0)),(.s (.int .u8 0)),(.s (.int .u8 0)),(.s (.int .u8 0)),(.s (.int .u8 0)),(.s (.int .u8 0))] [0,1,2]) [.t 4,.t 7,(.c (.s (.int .u8 3)))],gn (.bd (some 25)) [.t 2,.t 8]]) .ret))
abbrev F22 :Go.Vm.Fn:=⟨9,B22,[(.cell 2 (some 25))],true⟩
theorem R2 :bH Tryz.prog ob Tryz.f22 true=some F22:=by kernel_rfl
theorem R3 :B22.fits 9=true:=by kernel_rfl
def B23 :Go.Vm.C:=(.seq (.af [ga 4 .mv [(.c (.al true none []))]]) (.seq (.seq (.af [gm 5 0,ga 6 .len [.t 5],gm 7 1,ga 8 (.bin .num .gtr) [.t 6,.t 7]]) (.cond (.t 8) (.seq (.af [gm 9 0,gm 10 1,ga 11 (.jg none false true false) [.t 9,.t 10],gm 4 11]) .ret) .skip)) (.seq (.af [gm 12 0,gm 4 12]) .ret)))
abbrev F23 :Go.Vm.Fn:=⟨13,B23,[(.t 4)],true⟩
theorem R4 :bH Tryz.prog ob Tryz.f23 true=some F23:=by kernel_rfl
theorem R5 :B23.fits 13=true:=by kernel_rfl
def MP :Go.Vm.C:=(.loop (.seq (.af [ga 21 (.bin .num .lss) [.t 20,.t 19]]) (.seq (.cond (.t 21) .skip (.exit 0)) (.seq (.block 1 (.seq (.af [gm 22 20,ga 23 (.di (some 104)) [.t 18,.t 20],ga 24 (.ld (some 104)) [.t 23],ga 5 (.eJ (some 104) (.st 104 [ki,ku,ki,(.s (.pointer none))])) [],gm 4 22,gn (.bd (some 104)) [.t 5,.t 24]]) (.bL [gl 0 1 (gm 25 3),gl 0 1 (gm 26 4),gl 0 1 (ga 27 (.fa 104 0) [.t 5]),gl 0 1 (ga 28 (.ld none) [.t 27]),gl 0 1 (ga 29 (.fa 104 1) [.t 5]),gl 0 1 (ga 30 (.ld none) [.t 29]),gl 0 1 (ga 31 (.fa 104 2) [.t 5]),gl 0 1 (ga 32 (.ld none) [.t 31]),gl 0 0 (ga 33 (.fa 104 3) [.t 5]),gl 0 0 (ga 34 (.ld none) [.t 33]),gl 0 1 (ga 35 (.call 51) [.t 34]),gl 1 2 (ga 36 (.call 50) [.t 25,.t 26,.t 28,.t 30,.t 32,.t 35])]))) (.af [ga 37 (.bin .num .add) [.t 20,kc 1],gm 20 37])))))
def MQ :Go.Vm.C:=(.seq (.af [gm 38 3,gm 2 38]) .ret)
def B24 :Go.Vm.C:=(.seq (.af [ga 2 .mv [(.c (.s (.pointer none)))]]) (.seq (.af [gm 6 0,ga 7 .aN [.t 6],ga 8 (.fa 101 0) [.t 7],ga 9 (.ld none) [.t 8],gm 10 0,ga 11 .aN [.t 10],ga 12 (.fa 101 1) [.t 11],ga 13 (.ld none) [.t 12],ga 14 (.call 44) [.t 9,.t 13],gm 3 14]) (.seq (.seq (.af [gm 15 0,ga 16 .aN [.t 15],ga 17 (.fa 101 2) [.t 16],ga 18 (.ld none) [.t 17],ga 19 .len [.t 18],ga 20 .mv [kc 0]]) (.block 0 MP)) MQ)))
abbrev F24 :Go.Vm.Fn:=⟨39,B24,[(.t 2)],false⟩
theorem R6 :bH Tryz.prog ob Tryz.f24 false=some F24:=by kernel_rfl
theorem R8 :B24.fits 39=true:=by kernel_rfl
def B25 :Go.Vm.C:=(.seq (.af [ga 2 .mv [kc 0]]) (.seq (.seq (.af [gm 3 0,ga 4 .aN [.t 3],ga 5 (.fa 71 3) [.t 4],ga 6 (.ld none) [.t 5]]) (.block 0 (.seq (.af [ga 8 (.bin .num .eql) [.t 6,kc 2],gm 7 8]) (.cond (.t 7) (.seq (.af [ga 2 .mv [kc 29]]) .ret) (.seq (.af [ga 10 (.bin .num .eql) [.t 6,kc 3],gm 9 10]) (.cond (.t 9) (.seq (.af [ga 2 .mv [kc 28]]) .ret) .skip)))))) (.seq (.af [ga 2 .mv [kc 0]]) .ret)))
abbrev F25 :Go.Vm.Fn:=⟨11,B25,[(.t 2)],true⟩
theorem R9 :bH Tryz.prog ob Tryz.f25 true=some F25:=by kernel_rfl
theorem Sa :B25.fits 11=true:=by kernel_rfl
def B26 :Go.Vm.C:=(.seq (.af [ga 3 (.box (some 41)) [.t 1],ga 4 .mv [kc 0]]) (.seq (.seq (.af [ga 6 (.ld (some 41)) [.t 3],ga 7 (.call 52) [.t 6],ga 8 (.un .not) [.t 7]]) (.cond (.t 8) (.seq (.af [ga 4 .mv [kc 1]]) .ret) .skip)) (.seq (.seq (.af [ga 9 (.fa 41 0) [.t 3],ga 10 (.ld none) [.t 9]]) (.block 0 (.seq (.af [ga 12 (.bin .num .eql) [.t 10,kc 1],gm 11 12]) (.cond (.t 11) (.seq (.af [gm 13 0,ga 14 (.fa 41 4) [.t 3],ga 15 (.ld (some 31)) [.t 14],ga 16 (.call 53) [.t 13,.t 15],gm 4 16]) .ret) (.seq (.af [ga 18 (.bin .num .eql) [.t 10,kc 2],gm 17 18]) (.cond (.t 17) (.seq (.af [gm 19 0,ga 20 (.ld (some 41)) [.t 3],ga 21 (.call 54) [.t 19,.t 20],gm 4 21]) .ret) (.seq (.af [ga 23 (.bin .num .eql) [.t 10,kc 3],gm 22 23]) (.cond (.t 22) (.seq (.af [gm 24 0,ga 25 (.ld (some 41)) [.t 3],ga 26 (.call 55) [.t 24,.t 25],gm 4 26]) .ret) .skip)))))))) (.seq (.seq (.bL [gl 0 1 (gm 27 0),gl 0 1 (ga 28 .aN [.t 27]),gl 0 1 (ga 29 (.fa 101 2) [.t 28]),gl 0 1 (ga 30 (.ld none) [.t 29]),gl 0 1 (ga 31 (.fa 41 1) [.t 3]),gl 0 1 (ga 32 (.ld none) [.t 31]),gl 0 1 (ga 33 (.di (some 104)) [.t 30,.t 32]),gl 0 1 (ga 34 (.ld (some 104)) [.t 33]),gl 0 1 (ga 5 (.eJ (some 104) (.st 104 [ki,ku,ki,(.s (.pointer none))])) []),gl 1 2 (gn (.bd (some 104)) [.t 5,.t 34])]) (.seq (.af [ga 35 (.fa 104 0) [.t 5],ga 36 (.ld none) [.t 35],ga 37 (.bin .num .neq) [.t 36,kc 2],gm 38 37,gw 38 false 39 (.fa 104 1) [.t 5],gw 38 false 40 (.ld none) [.t 39],gw 38 false 41 (.fa 41 3) [.t 3],gw 38 false 42 (.ld none) [.t 41],gw 38 false 43 (.bin .num .neq) [.t 40,.t 42],ga 44 .pick [.t 38,kb true,.t 43]]) (.cond (.t 44) (.seq (.af [ga 4 .mv [kc 26]]) .ret) .skip))) (.seq (.af [ga 4 .mv [kc 0]]) .ret)))))
abbrev F26 :Go.Vm.Fn:=⟨45,B26,[(.t 4)],true⟩
theorem Sb :bH Tryz.prog ob Tryz.f26 true=some F26:=by kernel_rfl
theorem Sc :B26.fits 45=true:=by kernel_rfl
def B27 :Go.Vm.C:=(.seq (.af [ga 4 (.box (some 25)) [.t 0],ga 6 (.box (some 25)) [.t 2],ga 7 (.box (some 41)) [.t 3],ga 8 .mv [(.c (.al true none []))],ga 9 .mv [kc 0]]) (.seq (.af [ga 13 (.ld (some 41)) [.t 7],ga 14 (.call 56) [.t 13],gm 12 14,ga 15 (.ext 0) [.t 12],ga 16 (.ext 1) [.t 12],gm 10 15,gm 11 16]) (.seq (.seq (.af [gm 17 11,ga 18 (.bin .num .neq) [.t 17,kc 0]]) (.cond (.t 18) (.seq (.af [gm 19 11,ga 8 .mv [(.c (.al true none []))],gm 9 19]) .ret) .skip)) (.seq (.af [ga 20 (.ld (some 25)) [.t 4],gm 21 1,ga 22 (.qp 25 none false false) [.t 6],gm 23 10,ga 24 (.call 57) [.t 20,.t 21,.t 22,.t 23],gm 8 24,ga 9 .mv [kc 0]]) .ret))))
abbrev F27 :Go.Vm.Fn:=⟨25,B27,[(.t 8),(.t 9)],true⟩
theorem Sd :bH Tryz.prog ob Tryz.f27 true=some F27:=by kernel_rfl
theorem Se :B27.fits 25=true:=by kernel_rfl
def B28 :Go.Vm.C:=(.seq (.af [ga 2 (.box (some 53)) [.t 0],ga 3 (.box (some 25)) [.t 1],ga 4 (.eJ (some 53) (.st 53 [ku,ku,ku,(bC 25),ki])) [],ga 5 .mv [kb false]]) (.seq (.af [ga 7 (.ld (some 53)) [.t 2],ga 6 (.eJ (some 53) (.st 53 [ku,ku,ku,(bC 25),ki])) [],gn (.bd (some 53)) [.t 6,.t 7]]) (.seq (.af [ga 8 (.fa 53 1) [.t 2],ga 9 (.ld none) [.t 8],ga 10 (.bin .num .add) [.t 9,(.c (.s (.int .u64 1)))],ga 11 (.fa 53 1) [.t 2],gn (.bd none) [.t 11,.t 10]]) (.seq (.af [ga 12 (.ld (some 25)) [.t 3],ga 13 (.fa 53 3) [.t 2],gn (.bd (some 25)) [.t 13,.t 12]]) (.seq (.af [ga 14 (.ld (some 53)) [.t 6],ga 15 (.ld (some 53)) [.t 2],ga 16 (.call 58) [.t 14,.t 15],ga 17 (.ext 0) [.t 16],ga 18 (.ext 1) [.t 16],gn (.bd (some 53)) [.t 4,.t 17],gm 5 18]) .ret)))))
abbrev F28 :Go.Vm.Fn:=⟨19,B28,[(.cell 4 (some 53)),(.t 5)],true⟩
theorem Sf :bH Tryz.prog ob Tryz.f28 true=some F28:=by kernel_rfl
theorem Sg :B28.fits 19=true:=by kernel_rfl
def B29 :Go.Vm.C:=(.seq (.af [ga 2 (.box (some 25)) [.t 0],ga 4 (.eJ (some 25) (bC 25)) []]) (.seq (.bL [gl 0 1 (ga 5 (.ld (some 25)) [.t 2]),gl 0 0 (gm 6 1),gl 0 1 (ga 7 (.call 60) [.t 6]),gl 1 2 (ga 8 (.call 59) [.t 5,.t 7]),gl 2 3 (gn (.bd (some 25)) [.t 4,.t 8])]) .ret))
abbrev F29 :Go.Vm.Fn:=⟨9,B29,[(.cell 4 (some 25))],true⟩
theorem Sh :bH Tryz.prog ob Tryz.f29 true=some F29:=by kernel_rfl
theorem Si :B29.fits 9=true:=by kernel_rfl
def B30 :Go.Vm.C:=(.seq (.af [ga 6 .mv [kb false]]) (.seq (.seq (.af [gm 7 0,ga 8 (.call 32) [.t 7],ga 9 (.un .not) [.t 8]]) (.cond (.t 9) (.seq (.af [ga 6 .mv [kb false]]) .ret) .skip)) (.seq (.af [gm 10 0,ga 11 .aN [.t 10],ga 12 (.fa 71 5) [.t 11],ga 13 (.ld none) [.t 12],gm 14 1,gm 15 2,ga 16 (.call 61) [.t 13,.t 14,.t 15]]) (.seq (.seq (.af [gm 17 0,ga 18 (.call 32) [.t 17],ga 19 (.un .not) [.t 18]]) (.cond (.t 19) (.seq (.af [ga 6 .mv [kb false]]) .ret) .skip)) (.seq (.af [gm 20 0,ga 21 .aN [.t 20],ga 22 (.fa 71 5) [.t 21],ga 23 (.ld none) [.t 22],ga 24 (.call 62) [.t 23]]) (.seq (.af [ga 6 .mv [kb true]]) .ret))))))
abbrev F30 :Go.Vm.Fn:=⟨25,B30,[(.t 6)],false⟩
theorem Sj :bH Tryz.prog ob Tryz.f30 false=some F30:=by kernel_rfl
theorem Sk :B30.fits 25=true:=by kernel_rfl
def B31 :Go.Vm.C:=(.seq (.af [ga 1 (.box (some 53)) [.t 0],ga 2 .mv [kc 0]]) (.seq (.af [ga 4 (.ld (some 53)) [.t 1],ga 5 (.call 34) [.t 4],gm 3 5]) (.seq (.seq (.af [gm 6 3,ga 7 (.bin .num .geq) [.t 6,kc 8]]) (.cond (.t 7) (.seq (.af [ga 2 .mv [kc (-1)]]) .ret) .skip)) (.seq (.af [gm 8 3,ga 9 (.bin .num .add) [kc 2,.t 8],gm 2 9]) .ret))))
abbrev F31 :Go.Vm.Fn:=⟨10,B31,[(.t 2)],true⟩
theorem Sl :bH Tryz.prog ob Tryz.f31 true=some F31:=by kernel_rfl
theorem Sm :B31.fits 10=true:=by kernel_rfl
def B32 :Go.Vm.C:=(.seq (.af [ga 2 .mv [kb false]]) (.seq (.seq (.af [gm 3 0,ga 4 .aN [.t 3],ga 5 (.fa 71 8) [.t 4],ga 6 (.ld none) [.t 5],ga 7 (.bin .num .eql) [.t 6,kc 0]]) (.cond (.t 7) (.seq (.af [gm 8 0,gm 9 0,ga 10 .aN [.t 9],ga 11 (.fa 71 9) [.t 10],ga 12 (.ld none) [.t 11],ga 13 (.call 43) [.t 8,.t 12]]) (.seq (.af [ga 2 .mv [kb false]]) .ret)) .skip)) (.seq (.seq (.af [gm 14 0,ga 15 .aN [.t 14],ga 16 (.fa 71 8) [.t 15],ga 17 (.ld none) [.t 16],ga 18 (.bin .num .gtr) [.t 17,kc 0]]) (.cond (.t 18) (.af [gm 19 0,ga 20 .aN [.t 19],ga 21 (.fa 71 8) [.t 20],ga 22 (.ld none) [.t 21],ga 23 (.bin .num .sub) [.t 22,kc 1],ga 24 .aN [.t 19],ga 25 (.fa 71 8) [.t 24],gn (.bd none) [.t 25,.t 23]]) .skip)) (.seq (.af [gm 26 0,ga 27 .aN [.t 26],ga 28 (.fa 71 7) [.t 27],ga 29 (.ld none) [.t 28],ga 30 (.bin .num .add) [.t 29,kc 1],ga 31 .aN [.t 26],ga 32 (.fa 71 7) [.t 31],gn (.bd none) [.t 32,.t 30]]) (.seq (.af [ga 2 .mv [kb true]]) .ret)))))
abbrev F32 :Go.Vm.Fn:=⟨33,B32,[(.t 2)],false⟩
theorem Sn :bH Tryz.prog ob Tryz.f32 false=some F32:=by kernel_rfl
theorem So :B32.fits 33=true:=by kernel_rfl
def B33 :Go.Vm.C:=(.seq (.af [ga 3 (.box (some 41)) [.t 1],ga 4 .mv [kc 0]]) (.seq (.seq (.af [gm 7 0,ga 8 (.ld (some 41)) [.t 3],ga 9 (.call 26) [.t 7,.t 8],gm 5 9]) (.seq (.af [gm 10 5,ga 11 (.bin .num .neq) [.t 10,kc 0]]) (.cond (.t 11) (.seq (.af [gm 12 5,gm 4 12]) .ret) .skip))) (.seq (.seq (.af [ga 13 (.fa 41 0) [.t 3],ga 14 (.ld none) [.t 13],ga 15 (.bin .num .eql) [.t 14,kc 1]]) (.cond (.t 15) (.seq (.bL [gl 0 1 (gm 16 0),gl 0 1 (ga 17 .aN [.t 16]),gl 0 1 (ga 18 (.fa 101 2) [.t 17]),gl 0 1 (ga 19 (.ld none) [.t 18]),gl 0 0 (ga 20 (.fa 41 4) [.t 3]),gl 0 0 (ga 21 (.fa 31 0) [.t 20]),gl 0 0 (ga 22 (.ld (some 27)) [.t 21]),gl 0 1 (ga 23 (.call 63) [.t 22]),gl 1 1 (ga 24 (.di (some 104)) [.t 19,.t 23]),gl 1 1 (ga 25 (.fa 104 3) [.t 24]),gl 1 1 (ga 26 (.ld none) [.t 25]),gl 0 1 (ga 27 (.fa 41 4) [.t 3]),gl 0 1 (ga 28 (.ld (some 31)) [.t 27]),gl 1 2 (ga 29 (.call 64) [.t 26,.t 28]),gl 2 2 (gm 4 29)]) .ret) .skip)) (.seq (.af [gm 30 0,ga 31 .aN [.t 30],ga 32 (.fa 101 2) [.t 31],ga 33 (.ld none) [.t 32],ga 34 (.fa 41 1) [.t 3],ga 35 (.ld none) [.t 34],ga 36 (.di (some 104)) [.t 33,.t 35],gm 6 36]) (.seq (.af [gm 37 6,ga 38 (.fa 41 3) [.t 3],ga 39 (.ld none) [.t 38],ga 40 .aN [.t 37],ga 41 (.fa 104 1) [.t 40],gn (.bd none) [.t 41,.t 39]]) (.seq (.seq (.af [ga 42 (.fa 41 0) [.t 3],ga 43 (.ld none) [.t 42]]) (.block 0 (.seq (.af [ga 55 (.bin .num .eql) [.t 43,kc 2],gm 54 55]) (.cond (.t 54) (.bL [gl 0 0 (gm 56 6),gl 0 1 (gm 57 6),gl 0 1 (ga 58 (.fa 41 2) [.t 3]),gl 0 1 (ga 59 (.ld none) [.t 58]),gl 0 0 (ga 60 .aN [.t 56]),gl 0 0 (ga 61 (.fa 104 0) [.t 60]),gl 0 1 (gn (.bd none) [.t 61,kc 2]),gl 1 1 (ga 62 .aN [.t 57]),gl 1 1 (ga 63 (.fa 104 2) [.t 62]),gl 1 2 (gn (.bd none) [.t 63,.t 59])]) (.seq (.af [ga 65 (.bin .num .eql) [.t 43,kc 3],gm 64 65]) (.cond (.t 64) (.seq (.af [gm 66 6,gm 67 6,ga 68 .aN [.t 66],ga 69 (.fa 104 0) [.t 68],gn (.bd none) [.t 69,kc 1],ga 70 .aN [.t 67],ga 71 (.fa 104 2) [.t 70],gn (.bd none) [.t 71,kc 0]]) (.seq (.af [gm 72 6,ga 73 .aN [.t 72],ga 74 (.fa 104 3) [.t 73],ga 75 (.ld none) [.t 74],ga 76 (.fa 41 5) [.t 3],ga 77 (.ld none) [.t 76],ga 78 (.call 65) [.t 75,.t 77],gm 4 78]) .ret)) (.af [gm 44 6,gm 45 6,gm 46 6,ga 47 (.call 66) [],ga 48 .aN [.t 44],ga 49 (.fa 104 0) [.t 48],gn (.bd none) [.t 49,kc 0],ga 50 .aN [.t 45],ga 51 (.fa 104 2) [.t 50],gn (.bd none) [.t 51,kc 0],ga 52 .aN [.t 46],ga 53 (.fa 104 3) [.t 52],gn (.bd none) [.t 53,.t 47]]))))))) (.seq (.af [ga 4 .mv [kc 0]]) .ret)))))))
abbrev F33 :Go.Vm.Fn:=⟨79,B33,[(.t 4)],false⟩
theorem Sp :bH Tryz.prog ob Tryz.f33 false=some F33:=by kernel_rfl
theorem Sq :B33.fits 79=true:=by kernel_rfl
def B34 :Go.Vm.C:=(.seq (.af [ga 1 (.box (some 53)) [.t 0],ga 2 .mv [kc 0]]) (.seq (.seq (.af [ga 3 (.ld (some 53)) [.t 1],ga 4 (.call 67) [.t 3],ga 5 (.un .not) [.t 4]]) (.cond (.t 5) (.seq (.af [ga 2 .mv [kc 0]]) .ret) .skip)) (.seq (.af [ga 6 (.fa 53 1) [.t 1],ga 7 (.ld none) [.t 6],ga 8 (.fa 53 2) [.t 1],ga 9 (.ld none) [.t 8],ga 10 (.bin .num .sub) [.t 7,.t 9],ga 11 (.ig .i64) [.t 10],gm 2 11]) .ret)))
abbrev F34 :Go.Vm.Fn:=⟨12,B34,[(.t 2)],true⟩
theorem Sr :bH Tryz.prog ob Tryz.f34 true=some F34:=by kernel_rfl
theorem Ss :B34.fits 12=true:=by kernel_rfl
def B35 :Go.Vm.C:=(.seq (.af [ga 2 .mv [kb false]]) (.seq (.bL [gl 0 1 (gm 6 0),gl 0 1 (ga 7 .aN [.t 6]),gl 0 1 (ga 8 (.fa 71 2) [.t 7]),gl 0 1 (ga 9 (.ld (some 25)) [.t 8]),gl 0 1 (gm 10 0),gl 0 1 (ga 11 .aN [.t 10]),gl 0 1 (ga 12 (.fa 71 6) [.t 11]),gl 0 1 (ga 13 (.ld (some 53)) [.t 12]),gl 0 0 (gm 14 0),gl 0 0 (ga 15 .aN [.t 14]),gl 0 0 (ga 16 (.fa 71 4) [.t 15]),gl 0 0 (ga 17 (.ld none) [.t 16]),gl 0 1 (ga 18 (.call 16) [.t 17]),gl 1 2 (ga 19 (.call 68) [.t 9,.t 13,.t 18]),gl 2 2 (gm 5 19),gl 2 2 (ga 20 (.ext 0) [.t 5]),gl 2 2 (ga 21 (.ext 1) [.t 5]),gl 2 2 (gm 3 20),gl 2 2 (gm 4 21)]) (.seq (.seq (.af [gm 22 0,gm 23 0,ga 24 .aN [.t 23],ga 25 (.fa 71 6) [.t 24],ga 26 (.ld (some 53)) [.t 25],ga 27 (.call 69) [.t 26],gm 28 3,ga 29 (.call 30) [.t 22,.t 27,.t 28],ga 30 (.un .not) [.t 29],gm 31 30,gw 31 false 32 .mv [.t 0],gw 31 false 33 (.call 32) [.t 32],gw 31 false 34 (.un .not) [.t 33],ga 35 .pick [.t 31,kb true,.t 34]]) (.cond (.t 35) (.seq (.af [ga 2 .mv [kb false]]) .ret) .skip)) (.seq (.bL [gl 0 2 (gm 37 0),gl 0 1 (gm 38 0),gl 0 1 (ga 39 .aN [.t 38]),gl 0 1 (ga 40 (.fa 71 6) [.t 39]),gl 0 1 (ga 41 (.ld (some 53)) [.t 40]),gl 0 0 (gm 42 3),gl 0 1 (ga 43 (.call 71) [.t 42]),gl 1 2 (ga 44 (.call 70) [.t 41,.t 43]),gl 2 2 (gm 36 44),gl 2 2 (ga 45 (.ext 0) [.t 36]),gl 2 3 (ga 46 (.ext 1) [.t 36]),gl 2 2 (ga 47 .aN [.t 37]),gl 2 2 (ga 48 (.fa 71 6) [.t 47]),gl 2 3 (gn (.bd (some 53)) [.t 48,.t 45])]) (.seq (.af [ga 2 .mv [kb true]]) .ret)))))
abbrev F35 :Go.Vm.Fn:=⟨49,B35,[(.t 2)],false⟩
theorem Su :bH Tryz.prog ob Tryz.f35 false=some F35:=by kernel_rfl
theorem Sv :B35.fits 49=true:=by kernel_rfl
def B36 :Go.Vm.C:=(.seq (.af [ga 1 (.box (some 53)) [.t 0],ga 2 (.eJ (some 53) (.st 53 [ku,ku,ku,(bC 25),ki])) [],ga 3 .mv [kb false]]) (.seq (.af [ga 5 (.ld (some 53)) [.t 1],ga 4 (.eJ (some 53) (.st 53 [ku,ku,ku,(bC 25),ki])) [],gn (.bd (some 53)) [.t 4,.t 5]]) (.seq (.af [ga 6 (.fa 53 0) [.t 1],ga 7 (.ld none) [.t 6],ga 8 (.bin .num .add) [.t 7,(.c (.s (.int .u64 1)))],ga 9 (.fa 53 0) [.t 1],gn (.bd none) [.t 9,.t 8]]) (.seq (.af [ga 10 (.ld (some 53)) [.t 4],ga 11 (.ld (some 53)) [.t 1],ga 12 (.call 58) [.t 10,.t 11],ga 13 (.ext 0) [.t 12],ga 14 (.ext 1) [.t 12],gn (.bd (some 53)) [.t 2,.t 13],gm 3 14]) .ret))))
abbrev F36 :Go.Vm.Fn:=⟨15,B36,[(.cell 2 (some 53)),(.t 3)],true⟩
theorem Sw :bH Tryz.prog ob Tryz.f36 true=some F36:=by kernel_rfl
theorem Sx :B36.fits 15=true:=by kernel_rfl
def wM :Go.Vm.C:=(.loop (.seq (.af [ga 62 (.bin .num .lss) [.t 61,.t 60]]) (.seq (.cond (.t 62) .skip (.exit 0)) (.seq (.block 1 (.seq (.af [ga 63 (.di (some 41)) [.t 59,.t 61],ga 64 (.ld (some 41)) [.t 63],ga 9 (.eJ (some 41) (.st 41 [ki,ki,ki,ku,(.st 31 [(z4 27),ku,(bC 25),kx,ki,ki,(bC 25),(.s (.bool false)),(.s (.bool false))]),(.al false (some 31) [])])) [],gn (.bd (some 41)) [.t 9,.t 64]]) (.seq (.af [gm 65 7,ga 66 (.ld (some 41)) [.t 9],ga 67 (.call 33) [.t 65,.t 66],ga 68 (.bin .num .neq) [.t 67,kc 0]]) (.cond (.t 68) (.seq (.af [ga 2 .mv [(.c (.s (.pointer none)))],ga 3 .mv [kb false]]) .ret) .skip)))) (.af [ga 69 (.bin .num .add) [.t 61,kc 1],gm 61 69])))))
def wN :Go.Vm.C:=(.seq (.af [gm 70 7,gm 2 70,ga 3 .mv [kb true]]) .ret)
def B37 :Go.Vm.C:=(.seq (.af [ga 2 .mv [(.c (.s (.pointer none)))],ga 3 .mv [kb false]]) (.seq (.af [gm 11 0,ga 12 .aN [.t 11],ga 13 (.fa 71 2) [.t 12],ga 14 (.ld (some 25)) [.t 13],gm 15 0,ga 16 .aN [.t 15],ga 17 (.fa 71 5) [.t 16],ga 18 (.ld none) [.t 17],gm 19 0,ga 20 .aN [.t 19],ga 21 (.fa 71 6) [.t 20],ga 22 (.ld (some 53)) [.t 21],ga 23 (.call 72) [.t 14,.t 18,.t 22],gm 10 23,ga 24 (.ext 0) [.t 10],ga 25 (.ext 1) [.t 10],ga 26 (.ext 2) [.t 10],gm 4 24,gm 5 25,gm 6 26]) (.seq (.seq (.af [gm 27 6,ga 28 (.bin .num .neq) [.t 27,kc 0]]) (.cond (.t 28) (.seq (.af [ga 2 .mv [(.c (.s (.pointer none)))],ga 3 .mv [kb false]]) .ret) .skip)) (.seq (.af [gm 29 0,ga 30 .aN [.t 29],ga 31 (.fa 71 0) [.t 30],ga 32 (.ld none) [.t 31],gm 33 0,ga 34 .aN [.t 33],ga 35 (.fa 71 1) [.t 34],ga 36 (.ld none) [.t 35],ga 37 (.call 44) [.t 32,.t 36],gm 7 37]) (.seq (.seq (.af [gm 38 0,ga 39 .aN [.t 38],ga 40 (.fa 71 6) [.t 39],ga 41 (.fa 53 2) [.t 40],ga 42 (.ld none) [.t 41],ga 43 (.bin .num .gtr) [.t 42,(.c ku)]]) (.cond (.t 43) (.seq (.af [gm 45 0,ga 46 .aN [.t 45],ga 47 (.fa 71 0) [.t 46],ga 48 (.ld none) [.t 47],gm 49 0,ga 50 .aN [.t 49],ga 51 (.fa 71 1) [.t 50],ga 52 (.ld none) [.t 51],gm 53 4,ga 54 (.call 73) [.t 48,.t 52,.t 53],gm 44 54,ga 55 (.ext 0) [.t 44],ga 56 (.ext 1) [.t 44],gm 7 55,gm 6 56]) (.seq (.af [gm 57 6,ga 58 (.bin .num .neq) [.t 57,kc 0]]) (.cond (.t 58) (.seq (.af [ga 2 .mv [(.c (.s (.pointer none)))],ga 3 .mv [kb false]]) .ret) .skip))) .skip)) (.seq (.seq (.af [gm 59 5,ga 60 .len [.t 59],ga 61 .mv [kc 0]]) (.block 0 wM)) wN))))))
abbrev F37 :Go.Vm.Fn:=⟨71,B37,[(.t 2),(.t 3)],false⟩
theorem Sy :bH Tryz.prog ob Tryz.f37 false=some F37:=by kernel_rfl
theorem Sz :B37.fits 71=true:=by kernel_rfl
def B38 :Go.Vm.C:=(.seq (.af [ga 2 .mv [kc 0],ga 3 .mv [kc 0]]) (.seq (.af [gm 4 0,ga 5 .aN [.t 4],ga 6 (.fa 101 0) [.t 5],ga 7 (.ld none) [.t 6],gm 8 0,ga 9 .aN [.t 8],ga 10 (.fa 101 1) [.t 9],ga 11 (.ld none) [.t 10],gm 2 7,gm 3 11]) .ret))
abbrev F38 :Go.Vm.Fn:=⟨12,B38,[(.t 2),(.t 3)],true⟩
theorem SA :bH Tryz.prog ob Tryz.f38 true=some F38:=by kernel_rfl
theorem SB :B38.fits 12=true:=by kernel_rfl
def B39 :Go.Vm.C:=(.seq (.af [ga 4 .mv [kc 0],ga 5 .mv [(.c ku)],ga 6 .mv [kc 0]]) (.seq (.seq (.af [gm 8 1,ga 9 (.call 74) [.t 8],ga 10 (.un .not) [.t 9]]) (.cond (.t 10) (.seq (.af [ga 4 .mv [kc 0],ga 5 .mv [(.c ku)],ga 6 .mv [kc 0]]) .ret) .skip)) (.seq (.af [gm 11 0,ga 12 .aN [.t 11],ga 13 (.fa 101 2) [.t 12],ga 14 (.ld none) [.t 13],gm 15 1,ga 16 (.di (some 104)) [.t 14,.t 15],ga 17 (.ld (some 104)) [.t 16],ga 7 (.eJ (some 104) (.st 104 [ki,ku,ki,(.s (.pointer none))])) [],gn (.bd (some 104)) [.t 7,.t 17]]) (.seq (.af [ga 18 (.fa 104 0) [.t 7],ga 19 (.ld none) [.t 18],ga 20 (.fa 104 1) [.t 7],ga 21 (.ld none) [.t 20],ga 22 (.fa 104 2) [.t 7],ga 23 (.ld none) [.t 22],gm 4 19,gm 5 21,gm 6 23]) .ret))))
abbrev F39 :Go.Vm.Fn:=⟨24,B39,[(.t 4),(.t 5),(.t 6)],true⟩
theorem SC :bH Tryz.prog ob Tryz.f39 true=some F39:=by kernel_rfl
theorem SD :B39.fits 24=true:=by kernel_rfl
def B40 :Go.Vm.C:=(.seq (.af [ga 4 .mv [(.c (.al true (some 31) []))]]) (.seq (.seq (.af [gm 5 1,ga 6 (.call 74) [.t 5],ga 7 (.un .not) [.t 6],gm 8 7,gw 8 false 9 .mv [.t 0],gw 8 false 10 .aN [.t 9],gw 8 false 11 (.fa 101 2) [.t 10],gw 8 false 12 (.ld none) [.t 11],gw 8 false 13 .mv [.t 1],gw 8 false 14 (.di (some 104)) [.t 12,.t 13],gw 8 false 15 (.fa 104 0) [.t 14],gw 8 false 16 (.ld none) [.t 15],gw 8 false 17 (.bin .num .eql) [.t 16,kc 0],ga 18 .pick [.t 8,kb true,.t 17]]) (.cond (.t 18) (.seq (.af [ga 4 .mv [(.c (.al true (some 31) []))]]) .ret) .skip)) (.seq (.af [gm 19 0,ga 20 .aN [.t 19],ga 21 (.fa 101 2) [.t 20],ga 22 (.ld none) [.t 21],gm 23 1,ga 24 (.di (some 104)) [.t 22,.t 23],ga 25 (.fa 104 3) [.t 24],ga 26 (.ld none) [.t 25],ga 27 (.call 51) [.t 26],gm 4 27]) .ret)))
abbrev F40 :Go.Vm.Fn:=⟨28,B40,[(.t 4)],true⟩
theorem SE :bH Tryz.prog ob Tryz.f40 true=some F40:=by kernel_rfl
theorem SF :B40.fits 28=true:=by kernel_rfl
def FQ :Go.Vm.C:=(.loop (.seq (.af [ga 9 (.bin .num .lss) [.t 8,.t 7]]) (.seq (.cond (.t 9) .skip (.exit 0)) (.seq (.block 1 (.seq (.af [gm 10 8,gm 4 10]) (.af [gm 11 3,gm 12 4,gm 13 0,gm 14 4,ga 15 (.bin .num .sub) [kc 7,.t 14],ga 16 (.bin .num .mul) [kc 8,.t 15],ga 17 (.bin .num .shr) [.t 13,.t 16],ga 18 (.ig .u8) [.t 17],ga 19 (.di none) [.t 11,.t 12],gn (.bd none) [.t 19,.t 18]]))) (.af [ga 20 (.bin .num .add) [.t 8,kc 1],gm 8 20])))))
def FR :Go.Vm.C:=(.seq (.af [gm 21 3,gm 2 21]) .ret)
def B41 :Go.Vm.C:=(.seq (.af [ga 2 .mv [(.c (.al true none []))]]) (.seq (.af [ga 5 (.mks none (.s (.int .u8 0))) [kc 8,kc 8],gm 3 5]) (.seq (.seq (.af [gm 6 3,ga 7 .len [.t 6],ga 8 .mv [kc 0]]) (.block 0 FQ)) FR)))
abbrev F41 :Go.Vm.Fn:=⟨22,B41,[(.t 2)],false⟩
theorem SG :bH Tryz.prog ob Tryz.f41 false=some F41:=by kernel_rfl
theorem SH :B41.fits 22=true:=by kernel_rfl
def B42 :Go.Vm.C:=(.seq (.af [ga 1 (.box (some 31)) [.t 0],ga 2 .mv [(.c (.al true none []))],ga 3 .mv [kc 0]]) (.seq (.seq (.af [ga 4 (.ld (some 31)) [.t 1],ga 5 (.call 75) [.t 4],ga 6 (.un .not) [.t 5]]) (.cond (.t 6) (.seq (.af [ga 2 .mv [(.c (.al true none []))],ga 3 .mv [kc 1]]) .ret) .skip)) (.seq (.af [ga 7 (.ld (some 31)) [.t 1],ga 8 (.call 76) [.t 7],gm 2 8,ga 3 .mv [kc 0]]) .ret)))
abbrev F42 :Go.Vm.Fn:=⟨9,B42,[(.t 2),(.t 3)],true⟩
theorem SI :bH Tryz.prog ob Tryz.f42 true=some F42:=by kernel_rfl
theorem SJ :B42.fits 9=true:=by kernel_rfl
def B43 :Go.Vm.C:=(.seq (.af [gm 4 0,gm 5 0,ga 6 .aN [.t 4],ga 7 (.fa 71 3) [.t 6],gn (.bd none) [.t 7,kc 2],ga 8 .aN [.t 5],ga 9 (.fa 71 8) [.t 8],gn (.bd none) [.t 9,kc (-1)]]) (.af [gm 10 0,ga 11 .aN [.t 10],ga 12 (.fa 71 5) [.t 11],ga 13 (.ld none) [.t 12],gm 14 1,ga 15 (.call 77) [.t 13,.t 14]]))
abbrev F43 :Go.Vm.Fn:=⟨16,B43,[],false⟩
theorem SK :bH Tryz.prog ob Tryz.f43 false=some F43:=by kernel_rfl
theorem SL :B43.fits 16=true:=by kernel_rfl
def MR :Go.Vm.C:=(.loop (.seq (.af [ga 28 (.bin .num .lss) [.t 27,kc 16]]) (.seq (.cond (.t 28) .skip (.exit 0)) (.seq (.block 1 (.seq (.af [gm 29 27,gm 6 29]) (.seq (.af [ga 30 (.call 66) [],ga 31 (.dF 104 [ki,ku,ki,(.s (.pointer none))] [0,1,3]) [kc 0,(.c (.s (.int .u64 1))),.t 30],ga 7 (.eJ (some 104) (.st 104 [ki,ku,ki,(.s (.pointer none))])) [],gn (.bd (some 104)) [.t 7,.t 31]]) (.seq (.seq (.af [gm 32 6,gm 33 1,ga 34 (.call 78) [.t 32,.t 33],gm 35 0,ga 36 (.bin .num .eql) [.t 34,.t 35]]) (.cond (.t 36) (.af [ga 37 (.fa 104 0) [.t 7],gn (.bd none) [.t 37,kc 1]]) .skip)) (.bL [gl 0 2 (gm 38 5),gl 0 1 (gm 39 5),gl 0 1 (ga 40 .aN [.t 39]),gl 0 1 (ga 41 (.fa 101 2) [.t 40]),gl 0 1 (ga 42 (.ld none) [.t 41]),gl 0 0 (ga 43 (.ld (some 104)) [.t 7]),gl 0 1 (ga 44 (.ja (some 104) [(.st 104 [ki,ku,ki,(.s (.pointer none))])] [0]) [.t 43]),gl 1 2 (ga 45 (.app (some 104) 32) [.t 42,.t 44]),gl 2 2 (ga 46 .aN [.t 38]),gl 2 2 (ga 47 (.fa 101 2) [.t 46]),gl 2 3 (gn (.bd none) [.t 47,.t 45])]))))) (.af [ga 48 (.bin .num .add) [.t 27,kc 1],gm 27 48])))))
def MS :Go.Vm.C:=(.seq (.af [gm 49 5,gm 4 49]) .ret)
def B44 :Go.Vm.C:=(.seq (.af [ga 4 .mv [(.c (.s (.pointer none)))]]) (.seq (.seq (.af [gm 8 1,ga 9 (.bin .num .lss) [.t 8,kc 1],gm 10 9,gw 10 false 11 .mv [.t 1],gw 10 false 12 (.bin .num .gtr) [.t 11,kc 8],ga 13 .pick [.t 10,kb true,.t 12],gm 14 13,gw 14 false 15 .mv [.t 0],gw 14 false 16 (.bin .num .lss) [.t 15,kc 0],ga 17 .pick [.t 14,kb true,.t 16],gm 18 17,gw 18 false 19 .mv [.t 0],gw 18 false 20 .mv [.t 1],gw 18 false 21 (.bin .num .geq) [.t 19,.t 20],ga 22 .pick [.t 18,kb true,.t 21]]) (.cond (.t 22) (.seq (.af [ga 4 .mv [(.c (.s (.pointer none)))]]) .ret) .skip)) (.seq (.af [gm 23 0,gm 24 1,ga 25 (.dF 101 [ki,ki,(.al true (some 104) [])] [0,1]) [.t 23,.t 24],ga 26 (.box (some 101)) [.t 25],gm 5 26]) (.seq (.seq (.af [ga 27 .mv [kc 0]]) (.block 0 MR)) MS))))
abbrev F44 :Go.Vm.Fn:=⟨50,B44,[(.t 4)],false⟩
theorem SM :bH Tryz.prog ob Tryz.f44 false=some F44:=by kernel_rfl
theorem SN :B44.fits 50=true:=by kernel_rfl
def B45 :Go.Vm.C:=(.seq (.af [ga 2 (.box (some 25)) [.t 0],ga 4 (.eJ (some 25) (bC 25)) []]) (.seq (.af [ga 5 (.ld (some 25)) [.t 2],gm 6 1,ga 7 (.ig .u8) [.t 6],ga 8 (.ja none [(.s (.int .u8 0))] [0]) [.t 7],ga 9 (.call 79) [.t 5,.t 8],gn (.bd (some 25)) [.t 4,.t 9]]) .ret))
abbrev F45 :Go.Vm.Fn:=⟨10,B45,[(.cell 4 (some 25))],true⟩
theorem SO :bH Tryz.prog ob Tryz.f45 true=some F45:=by kernel_rfl
theorem SP :B45.fits 10=true:=by kernel_rfl
def B46 :Go.Vm.C:=(.seq (.af [ga 0 .mv [(.c (.s (.pointer none)))]]) (.seq (.af [ga 1 (.dF 133 [(.arr 132 [(.st 130 [(.s (.bool false)),(.al true none [])]),(.st 130 [(.s (.bool false)),(.al true none [])]),(.st 130 [(.s (.bool false)),(.al true none [])]),(.st 130 [(.s (.bool false)),(.al true none [])]),(.st 130 [(.s (.bool false)),(.al true none [])]),(.st 130 [(.s (.bool false)),(.al true none [])]),(.st 130 [(.s (.bool false)),(.al true none [])]),(.st 130 [(.s (.bool false)),(.al true none [])]),(.st 130 [(.s (.bool false)),(.al true none [])]),(.st 130 [(.s (.bool false)),(.al true none [])])]),(.arr 132 [(.st 130 [(.s (.bool false)),(.al true none [])]),(.st 130 [(.s (.bool false)),(.al true none [])]),(.st 130 [(.s (.bool false)),(.al true none [])]),(.st 130 [(.s (.bool false)),(.al true none [])]),(.st 130 [(.s (.bool false)),(.al true none [])]),(.st 130 [(.s (.bool false)),(.al true none [])]),(.st 130 [(.s (.bool false)),(.al true none [])]),(.st 130 [(.s (.bool false)),(.al true none [])]),(.st 130 [(.s (.bool false)),(.al true none [])]),(.st 130 [(.s (.bool false)),(.al true none [])])]),ki,ki,(.al true none [])] []) [],ga 2 (.box (some 133)) [.t 1],gm 0 2]) .ret))
abbrev F46 :Go.Vm.Fn:=⟨3,B46,[(.t 0)],false⟩
theorem SQ :bH Tryz.prog ob Tryz.f46 false=some F46:=by kernel_rfl
theorem SS :B46.fits 3=true:=by kernel_rfl
def MT :Go.Vm.C:=(.loop (.seq (.seq (.af [gm 26 6,ga 27 (.bin .num .lss) [.t 26,kc 16]]) (.cond (.t 27) .skip (.exit 0))) (.seq (.block 1 (.seq (.af [gm 30 5,gm 31 6,ga 32 .aN [.t 30],ga 33 (.fa 138 2) [.t 32],ga 34 (.jj 137) [.t 33,.t 31],ga 35 (.fa 135 1) [.t 34],gn (.bd none) [.t 35,(.c (.s (.int .u64 1)))]]) (.seq (.af [gm 36 6,gm 37 1,ga 38 (.bin .num .rem) [.t 36,.t 37],gm 39 0,ga 40 (.bin .num .eql) [.t 38,.t 39]]) (.cond (.t 40) (.af [gm 41 5,gm 42 6,ga 43 .aN [.t 41],ga 44 (.fa 138 2) [.t 43],ga 45 (.jj 137) [.t 44,.t 42],ga 46 (.fa 135 0) [.t 45],gn (.bd none) [.t 46,kc 1]]) .skip)))) (.af [gm 28 6,ga 29 (.bin .num .add) [.t 28,kc 1],gm 6 29]))))
def MU :Go.Vm.C:=(.seq (.af [gm 47 5,gm 4 47]) .ret)
def B47 :Go.Vm.C:=(.seq (.af [ga 4 .mv [(.c (.s (.pointer none)))]]) (.seq (.seq (.af [gm 7 1,ga 8 (.bin .num .lss) [.t 7,kc 1],gm 9 8,gw 9 false 10 .mv [.t 1],gw 9 false 11 (.bin .num .gtr) [.t 10,kc 8],ga 12 .pick [.t 9,kb true,.t 11],gm 13 12,gw 13 false 14 .mv [.t 0],gw 13 false 15 (.bin .num .lss) [.t 14,kc 0],ga 16 .pick [.t 13,kb true,.t 15],gm 17 16,gw 17 false 18 .mv [.t 0],gw 17 false 19 .mv [.t 1],gw 17 false 20 (.bin .num .geq) [.t 18,.t 19],ga 21 .pick [.t 17,kb true,.t 20]]) (.cond (.t 21) (.seq (.af [ga 4 .mv [(.c (.s (.pointer none)))]]) .ret) .skip)) (.seq (.af [gm 22 0,gm 23 1,ga 24 (.dF 138 [ki,ki,(.arr 137 [(.st 135 [ki,ku,ki,(.al true (some 31) [])]),(.st 135 [ki,ku,ki,(.al true (some 31) [])]),(.st 135 [ki,ku,ki,(.al true (some 31) [])]),(.st 135 [ki,ku,ki,(.al true (some 31) [])]),(.st 135 [ki,ku,ki,(.al true (some 31) [])]),(.st 135 [ki,ku,ki,(.al true (some 31) [])]),(.st 135 [ki,ku,ki,(.al true (some 31) [])]),(.st 135 [ki,ku,ki,(.al true (some 31) [])]),(.st 135 [ki,ku,ki,(.al true (some 31) [])]),(.st 135 [ki,ku,ki,(.al true (some 31) [])]),(.st 135 [ki,ku,ki,(.al true (some 31) [])]),(.st 135 [ki,ku,ki,(.al true (some 31) [])]),(.st 135 [ki,ku,ki,(.al true (some 31) [])]),(.st 135 [ki,ku,ki,(.al true (some 31) [])]),(.st 135 [ki,ku,ki,(.al true (some 31) [])]),(.st 135 [ki,ku,ki,(.al true (some 31) [])])])] [0,1]) [.t 22,.t 23],ga 25 (.box (some 138)) [.t 24],gm 5 25]) (.seq (.seq (.af [ga 6 .mv [kc 0]]) (.block 0 MT)) MU))))
abbrev F47 :Go.Vm.Fn:=⟨48,B47,[(.t 4)],false⟩
theorem SU :bH Tryz.prog ob Tryz.f47 false=some F47:=by kernel_rfl
theorem SV :B47.fits 48=true:=by kernel_rfl
def B48 :Go.Vm.C:=(.seq (.af [ga 2 (.box (some 25)) [.t 0],ga 4 (.eJ (some 25) (bC 25)) []]) (.seq (.af [ga 5 (.ld (some 25)) [.t 2],gm 6 1,ga 7 (.ig .u8) [.t 6],ga 8 (.ja none [(.s (.int .u8 0))] [0]) [.t 7],ga 9 (.call 80) [.t 5,.t 8],gn (.bd (some 25)) [.t 4,.t 9]]) .ret))
abbrev F48 :Go.Vm.Fn:=⟨10,B48,[(.cell 4 (some 25))],true⟩
theorem SW :bH Tryz.prog ob Tryz.f48 true=some F48:=by kernel_rfl
theorem SX :B48.fits 10=true:=by kernel_rfl
def B49 :Go.Vm.C:=(.seq (.af [ga 0 .mv [(.c (.s (.pointer none)))]]) (.seq (.af [ga 1 (.dF 143 [(.arr 142 [(.st 140 [(.s (.bool false)),(.al true none [])]),(.st 140 [(.s (.bool false)),(.al true none [])]),(.st 140 [(.s (.bool false)),(.al true none [])]),(.st 140 [(.s (.bool false)),(.al true none [])]),(.st 140 [(.s (.bool false)),(.al true none [])]),(.st 140 [(.s (.bool false)),(.al true none [])]),(.st 140 [(.s (.bool false)),(.al true none [])]),(.st 140 [(.s (.bool false)),(.al true none [])]),(.st 140 [(.s (.bool false)),(.al true none [])]),(.st 140 [(.s (.bool false)),(.al true none [])])]),(.arr 142 [(.st 140 [(.s (.bool false)),(.al true none [])]),(.st 140 [(.s (.bool false)),(.al true none [])]),(.st 140 [(.s (.bool false)),(.al true none [])]),(.st 140 [(.s (.bool false)),(.al true none [])]),(.st 140 [(.s (.bool false)),(.al true none [])]),(.st 140 [(.s (.bool false)),(.al true none [])]),(.st 140 [(.s (.bool false)),(.al true none [])]),(.st 140 [(.s (.bool false)),(.al true none [])]),(.st 140 [(.s (.bool false)),(.al true none [])]),(.st 140 [(.s (.bool false)),(.al true none [])])]),ki,(.al true none []),ki] [2]) [kc (-1)],ga 2 (.box (some 143)) [.t 1],gm 0 2]) .ret))
abbrev F49 :Go.Vm.Fn:=⟨3,B49,[(.t 0)],false⟩
theorem SY :bH Tryz.prog ob Tryz.f49 false=some F49:=by kernel_rfl
theorem SZ :B49.fits 3=true:=by kernel_rfl
def B50 :Go.Vm.C:=(.seq (.af [ga 12 .mv [kc 0]]) (.seq (.af [ga 14 (.call 66) [],gm 13 14]) (.seq (.seq (.af [gm 15 0,gm 16 1,gm 17 2,gm 18 3,gm 19 4,gm 20 5,ga 21 (.call 81) [.t 15,.t 16,.t 17,.t 18,.t 19,.t 20],ga 22 (.un .not) [.t 21],gm 23 22,gw 23 false 24 .mv [.t 13],gw 23 false 25 .mv [.t 5],gw 23 false 26 (.call 65) [.t 24,.t 25],gw 23 false 27 (.bin .num .neq) [.t 26,kc 0],ga 28 .pick [.t 23,kb true,.t 27]]) (.cond (.t 28) (.seq (.af [ga 12 .mv [kc 1]]) .ret) .skip)) (.seq (.af [gm 29 0,ga 30 .aN [.t 29],ga 31 (.fa 101 2) [.t 30],ga 32 (.ld none) [.t 31],gm 33 1,gm 34 2,gm 35 3,gm 36 4,gm 37 13,ga 38 (.dF 104 [ki,ku,ki,(.s (.pointer none))] [0,1,2,3]) [.t 34,.t 35,.t 36,.t 37],ga 39 (.di (some 104)) [.t 32,.t 33],gn (.bd (some 104)) [.t 39,.t 38]]) (.seq (.af [ga 12 .mv [kc 0]]) .ret)))))
abbrev F50 :Go.Vm.Fn:=⟨40,B50,[(.t 12)],false⟩
theorem S2 :bH Tryz.prog ob Tryz.f50 false=some F50:=by kernel_rfl
theorem S3 :B50.fits 40=true:=by kernel_rfl
def FT :Go.Vm.C:=(.loop (.seq (.af [ga 12 (.bin .num .lss) [.t 11,.t 10]]) (.seq (.cond (.t 12) .skip (.exit 0)) (.seq (.block 1 (.seq (.af [ga 13 (.di (some 31)) [.t 9,.t 11],ga 14 (.ld (some 31)) [.t 13],ga 5 (.eJ (some 31) (.st 31 [(z4 27),ku,(bC 25),kx,ki,ki,(bC 25),(.s (.bool false)),(.s (.bool false))])) [],gn (.bd (some 31)) [.t 5,.t 14]]) (.af [gm 15 3,ga 16 (.ld (some 31)) [.t 5],ga 17 (.call 82) [.t 16],ga 18 (.ja (some 31) [(.st 31 [(z4 27),ku,(bC 25),kx,ki,ki,(bC 25),(.s (.bool false)),(.s (.bool false))])] [0]) [.t 17],ga 19 (.app (some 31) 96) [.t 15,.t 18],gm 3 19]))) (.af [ga 20 (.bin .num .add) [.t 11,kc 1],gm 11 20])))))
def FU :Go.Vm.C:=(.seq (.af [gm 21 3,gm 2 21]) .ret)
def B51 :Go.Vm.C:=(.seq (.af [ga 2 .mv [(.c (.al true (some 31) []))]]) (.seq (.af [ga 3 .mv [(.c (.al true (some 31) []))]]) (.seq (.seq (.af [gm 6 0,ga 7 .aN [.t 6],ga 8 (.fa 146 0) [.t 7],ga 9 (.ld none) [.t 8],ga 10 .len [.t 9],ga 11 .mv [kc 0]]) (.block 0 FT)) FU)))
abbrev F51 :Go.Vm.Fn:=⟨22,B51,[(.t 2)],true⟩
theorem S4 :bH Tryz.prog ob Tryz.f51 true=some F51:=by kernel_rfl
theorem S5 :B51.fits 22=true:=by kernel_rfl
def B52 :Go.Vm.C:=(.seq (.af [ga 1 (.box (some 41)) [.t 0],ga 2 .mv [kb false]]) (.seq (.af [ga 4 (.fa 41 3) [.t 1],ga 5 (.ld none) [.t 4],ga 6 (.bin .num .geq) [.t 5,(.c (.s (.int .u64 1)))],gm 7 6,gw 7 true 8 (.fa 41 3) [.t 1],gw 7 true 9 (.ld none) [.t 8],gw 7 true 10 (.bin .num .leq) [.t 9,(.c (.s (.int .u64 1099511627776)))],ga 11 .pick [.t 7,.t 10,kb false],gm 12 11,gw 12 true 13 (.fa 41 1) [.t 1],gw 12 true 14 (.ld none) [.t 13],gw 12 true 15 (.bin .num .geq) [.t 14,kc 0],ga 16 .pick [.t 12,.t 15,kb false],gm 17 16,gw 17 true 18 (.fa 41 1) [.t 1],gw 17 true 19 (.ld none) [.t 18],gw 17 true 20 (.bin .num .lss) [.t 19,kc 16],ga 21 .pick [.t 17,.t 20,kb false],gm 22 21,gw 22 true 23 (.fa 41 4) [.t 1],gw 22 true 24 (.ld (some 31)) [.t 23],gw 22 true 25 (.call 83) [.t 24],ga 26 .pick [.t 22,.t 25,kb false],gm 3 26]) (.seq (.seq (.af [ga 27 (.fa 41 0) [.t 1],ga 28 (.ld none) [.t 27]]) (.block 0 (.seq (.af [ga 30 (.bin .num .eql) [.t 28,kc 1],gm 29 30]) (.cond (.t 29) (.seq (.af [ga 31 (.fa 41 4) [.t 1],ga 32 (.ld (some 31)) [.t 31],ga 33 (.call 75) [.t 32],gm 34 33,gw 34 true 35 (.fa 41 1) [.t 1],gw 34 true 36 (.ld none) [.t 35],gw 34 true 37 (.bin .num .eql) [.t 36,kc 0],ga 38 .pick [.t 34,.t 37,kb false],gm 39 38,gw 39 true 40 (.fa 41 2) [.t 1],gw 39 true 41 (.ld none) [.t 40],gw 39 true 42 (.bin .num .eql) [.t 41,kc 0],ga 43 .pick [.t 39,.t 42,kb false],gm 44 43,gw 44 true 45 (.fa 41 3) [.t 1],gw 44 true 46 (.ld none) [.t 45],gw 44 true 47 (.bin .num .eql) [.t 46,(.c ku)],ga 48 .pick [.t 44,.t 47,kb false],gm 49 48,gw 49 true 50 (.fa 41 5) [.t 1],gw 49 true 51 (.ld none) [.t 50],gw 49 true 52 .len [.t 51],gw 49 true 53 (.bin .num .eql) [.t 52,kc 0],ga 54 .pick [.t 49,.t 53,kb false],gm 2 54]) .ret) (.seq (.af [ga 56 (.bin .num .eql) [.t 28,kc 2],gm 55 56]) (.cond (.t 55) (.seq (.af [gm 57 3,gm 58 57,gw 58 true 59 (.fa 41 2) [.t 1],gw 58 true 60 (.ld none) [.t 59],gw 58 true 61 (.bin .num .geq) [.t 60,kc 0],ga 62 .pick [.t 58,.t 61,kb false],gm 63 62,gw 63 true 64 (.fa 41 2) [.t 1],gw 63 true 65 (.ld none) [.t 64],gw 63 true 66 (.bin .num .lss) [.t 65,kc 8],ga 67 .pick [.t 63,.t 66,kb false],gm 68 67,gw 68 true 69 (.fa 41 5) [.t 1],gw 68 true 70 (.ld none) [.t 69],gw 68 true 71 .len [.t 70],gw 68 true 72 (.bin .num .eql) [.t 71,kc 0],ga 73 .pick [.t 68,.t 72,kb false],gm 2 73]) .ret) (.seq (.af [ga 75 (.bin .num .eql) [.t 28,kc 3],gm 74 75]) (.cond (.t 74) (.seq (.af [gm 76 3,gm 77 76,gw 77 true 78 (.fa 41 2) [.t 1],gw 77 true 79 (.ld none) [.t 78],gw 77 true 80 (.bin .num .eql) [.t 79,kc 0],ga 81 .pick [.t 77,.t 80,kb false],gm 82 81,gw 82 true 83 (.fa 41 5) [.t 1],gw 82 true 84 (.ld none) [.t 83],gw 82 true 85 (.call 84) [.t 84],ga 86 .pick [.t 82,.t 85,kb false],gm 2 86]) .ret) (.seq (.af [ga 88 (.bin .num .eql) [.t 28,kc 4],gm 87 88]) (.cond (.t 87) (.seq (.af [gm 89 3,gm 90 89,gw 90 true 91 (.fa 41 2) [.t 1],gw 90 true 92 (.ld none) [.t 91],gw 90 true 93 (.bin .num .eql) [.t 92,kc 0],ga 94 .pick [.t 90,.t 93,kb false],gm 95 94,gw 95 true 96 (.fa 41 5) [.t 1],gw 95 true 97 (.ld none) [.t 96],gw 95 true 98 .len [.t 97],gw 95 true 99 (.bin .num .eql) [.t 98,kc 0],ga 100 .pick [.t 95,.t 99,kb false],gm 2 100]) .ret) .skip)))))))))) (.seq (.af [ga 2 .mv [kb false]]) .ret))))
abbrev F52 :Go.Vm.Fn:=⟨101,B52,[(.t 2)],true⟩
theorem S6 :bH Tryz.prog ob Tryz.f52 true=some F52:=by kernel_rfl
theorem S7 :B52.fits 101=true:=by kernel_rfl
def B53 :Go.Vm.C:=(.seq (.af [ga 3 (.box (some 31)) [.t 1],ga 4 .mv [kc 0]]) (.seq (.bL [gl 0 1 (gm 8 0),gl 0 1 (ga 9 .aN [.t 8]),gl 0 1 (ga 10 (.fa 101 2) [.t 9]),gl 0 1 (ga 11 (.ld none) [.t 10]),gl 0 1 (ga 12 (.fa 31 0) [.t 3]),gl 0 1 (ga 13 (.ld (some 27)) [.t 12]),gl 0 1 (ga 14 (.ie 63) [.t 13]),gl 0 1 (ga 15 (.di (some 104)) [.t 11,.t 14]),gl 0 1 (ga 16 (.ld (some 104)) [.t 15]),gl 0 1 (ga 5 (.eJ (some 104) (.st 104 [ki,ku,ki,(.s (.pointer none))])) []),gl 1 2 (gn (.bd (some 104)) [.t 5,.t 16])]) (.seq (.af [ga 18 (.fa 104 3) [.t 5],ga 19 (.ld none) [.t 18],ga 20 (.fa 31 0) [.t 3],ga 21 (.ld (some 27)) [.t 20],ga 22 (.call 85) [.t 19,.t 21],gm 17 22,ga 23 (.ext 0) [.t 17],ga 24 (.ext 1) [.t 17],ga 6 (.eJ (some 31) (.st 31 [(z4 27),ku,(bC 25),kx,ki,ki,(bC 25),(.s (.bool false)),(.s (.bool false))])) [],gn (.bd (some 31)) [.t 6,.t 23],gm 7 24]) (.seq (.block 0 (.seq (.af [ga 26 (.fa 104 0) [.t 5],ga 27 (.ld none) [.t 26],ga 28 (.bin .num .eql) [.t 27,kc 0],gm 25 28]) (.cond (.t 25) (.seq (.af [ga 4 .mv [kc 26]]) .ret) (.seq (.af [ga 30 (.fa 104 0) [.t 5],ga 31 (.ld none) [.t 30],ga 32 (.bin .num .eql) [.t 31,kc 2],gm 29 32]) (.cond (.t 29) (.seq (.af [ga 4 .mv [kc 27]]) .ret) (.seq (.af [gm 34 7,ga 35 (.un .not) [.t 34],gm 36 35,gw 36 true 37 (.fa 104 3) [.t 5],gw 36 true 38 (.ld none) [.t 37],gw 36 true 39 (.call 86) [.t 38],gw 36 true 40 (.bin .num .geq) [.t 39,kc 4],ga 41 .pick [.t 36,.t 40,kb false],gm 33 41]) (.cond (.t 33) (.seq (.af [ga 4 .mv [kc 13]]) .ret) .skip))))))) (.seq (.af [ga 4 .mv [kc 0]]) .ret)))))
abbrev F53 :Go.Vm.Fn:=⟨42,B53,[(.t 4)],true⟩
theorem S8 :bH Tryz.prog ob Tryz.f53 true=some F53:=by kernel_rfl
theorem S9 :B53.fits 42=true:=by kernel_rfl
def B54 :Go.Vm.C:=(.seq (.af [ga 3 (.box (some 41)) [.t 1],ga 4 .mv [kc 0]]) (.seq (.bL [gl 0 1 (gm 6 0),gl 0 1 (ga 7 .aN [.t 6]),gl 0 1 (ga 8 (.fa 101 2) [.t 7]),gl 0 1 (ga 9 (.ld none) [.t 8]),gl 0 1 (ga 10 (.fa 41 1) [.t 3]),gl 0 1 (ga 11 (.ld none) [.t 10]),gl 0 1 (ga 12 (.di (some 104)) [.t 9,.t 11]),gl 0 1 (ga 13 (.ld (some 104)) [.t 12]),gl 0 1 (ga 5 (.eJ (some 104) (.st 104 [ki,ku,ki,(.s (.pointer none))])) []),gl 1 2 (gn (.bd (some 104)) [.t 5,.t 13])]) (.seq (.block 0 (.seq (.af [ga 15 (.fa 41 2) [.t 3],ga 16 (.ld none) [.t 15],gm 17 0,ga 18 .aN [.t 17],ga 19 (.fa 101 1) [.t 18],ga 20 (.ld none) [.t 19],ga 21 (.bin .num .geq) [.t 16,.t 20],gm 22 21,gw 22 false 23 (.fa 41 2) [.t 3],gw 22 false 24 (.ld none) [.t 23],gw 22 false 25 .mv [.t 0],gw 22 false 26 .aN [.t 25],gw 22 false 27 (.fa 101 0) [.t 26],gw 22 false 28 (.ld none) [.t 27],gw 22 false 29 (.bin .num .eql) [.t 24,.t 28],ga 30 .pick [.t 22,kb true,.t 29],gm 14 30]) (.cond (.t 14) (.seq (.af [ga 4 .mv [kc 1]]) .ret) (.seq (.af [ga 32 (.fa 104 0) [.t 5],ga 33 (.ld none) [.t 32],ga 34 (.bin .num .eql) [.t 33,kc 0],gm 31 34]) (.cond (.t 31) (.seq (.af [ga 4 .mv [kc 26]]) .ret) (.seq (.af [ga 36 (.fa 104 0) [.t 5],ga 37 (.ld none) [.t 36],ga 38 (.bin .num .eql) [.t 37,kc 2],gm 35 38]) (.cond (.t 35) (.seq (.af [ga 4 .mv [kc 27]]) .ret) (.seq (.af [ga 40 (.fa 41 3) [.t 3],ga 41 (.ld none) [.t 40],ga 42 (.fa 104 1) [.t 5],ga 43 (.ld none) [.t 42],ga 44 (.bin .num .add) [.t 43,(.c (.s (.int .u64 1)))],ga 45 (.bin .num .neq) [.t 41,.t 44],gm 39 45]) (.cond (.t 39) (.seq (.af [ga 4 .mv [kc 1]]) .ret) .skip))))))))) (.seq (.af [ga 4 .mv [kc 0]]) .ret))))
abbrev F54 :Go.Vm.Fn:=⟨46,B54,[(.t 4)],true⟩
theorem Ta :bH Tryz.prog ob Tryz.f54 true=some F54:=by kernel_rfl
theorem Tb :B54.fits 46=true:=by kernel_rfl
def B55 :Go.Vm.C:=(.seq (.af [ga 3 (.box (some 41)) [.t 1],ga 4 .mv [kc 0]]) (.seq (.bL [gl 0 1 (gm 6 0),gl 0 1 (ga 7 .aN [.t 6]),gl 0 1 (ga 8 (.fa 101 2) [.t 7]),gl 0 1 (ga 9 (.ld none) [.t 8]),gl 0 1 (ga 10 (.fa 41 1) [.t 3]),gl 0 1 (ga 11 (.ld none) [.t 10]),gl 0 1 (ga 12 (.di (some 104)) [.t 9,.t 11]),gl 0 1 (ga 13 (.ld (some 104)) [.t 12]),gl 0 1 (ga 5 (.eJ (some 104) (.st 104 [ki,ku,ki,(.s (.pointer none))])) []),gl 1 2 (gn (.bd (some 104)) [.t 5,.t 13])]) (.seq (.block 0 (.seq (.af [ga 15 (.fa 41 5) [.t 3],ga 16 (.ld none) [.t 15],ga 17 (.mkf 88) [.t 3],ga 18 (.call 87) [.t 16,.t 17],gm 14 18]) (.cond (.t 14) (.seq (.af [ga 4 .mv [kc 1]]) .ret) (.seq (.af [ga 20 (.fa 104 0) [.t 5],ga 21 (.ld none) [.t 20],ga 22 (.bin .num .eql) [.t 21,kc 1],gm 19 22]) (.cond (.t 19) (.seq (.af [ga 4 .mv [kc 26]]) .ret) (.seq (.af [ga 24 (.fa 41 3) [.t 3],ga 25 (.ld none) [.t 24],ga 26 (.fa 104 1) [.t 5],ga 27 (.ld none) [.t 26],ga 28 (.bin .num .leq) [.t 25,.t 27],gm 23 28]) (.cond (.t 23) (.seq (.af [ga 4 .mv [kc 31]]) .ret) .skip))))))) (.seq (.af [ga 4 .mv [kc 0]]) .ret))))
abbrev F55 :Go.Vm.Fn:=⟨29,B55,[(.t 4)],true⟩
theorem Tc :bH Tryz.prog ob Tryz.f55 true=some F55:=by kernel_rfl
theorem Td :B55.fits 29=true:=by kernel_rfl
def FV :Go.Vm.C:=(.loop (.seq (.af [ga 70 (.bin .num .lss) [.t 69,.t 68]]) (.seq (.cond (.t 70) .skip (.exit 1)) (.seq (.block 2 (.seq (.af [ga 71 (.di (some 31)) [.t 67,.t 69],ga 72 (.ld (some 31)) [.t 71],ga 6 (.eJ (some 31) (.st 31 [(z4 27),ku,(bC 25),kx,ki,ki,(bC 25),(.s (.bool false)),(.s (.bool false))])) [],gn (.bd (some 31)) [.t 6,.t 72]]) (.af [gm 73 4,ga 74 (.ld (some 31)) [.t 6],ga 75 (.call 76) [.t 74],ga 76 (.app none 1) [.t 73,.t 75],gm 4 76]))) (.af [ga 77 (.bin .num .add) [.t 69,kc 1],gm 69 77])))))
def B56 :Go.Vm.C:=(.seq (.af [ga 1 (.box (some 41)) [.t 0],ga 2 .mv [(.c (.al true none []))],ga 3 .mv [kc 0]]) (.seq (.seq (.af [ga 7 (.ld (some 41)) [.t 1],ga 8 (.call 52) [.t 7],ga 9 (.un .not) [.t 8]]) (.cond (.t 9) (.seq (.af [ga 2 .mv [(.c (.al true none []))],ga 3 .mv [kc 1]]) .ret) .skip)) (.seq (.af [ga 10 (.fa 41 0) [.t 1],ga 11 (.ld none) [.t 10],ga 12 (.ig .u8) [.t 11],ga 13 (.ja none [(.s (.int .u8 0))] [0]) [.t 12],gm 4 13]) (.seq (.seq (.af [ga 14 (.fa 41 0) [.t 1],ga 15 (.ld none) [.t 14]]) (.block 0 (.seq (.af [ga 27 (.bin .num .eql) [.t 15,kc 1],gm 26 27]) (.cond (.t 26) (.af [gm 28 4,ga 29 (.fa 41 4) [.t 1],ga 30 (.ld (some 31)) [.t 29],ga 31 (.call 76) [.t 30],ga 32 (.app none 1) [.t 28,.t 31],gm 4 32]) (.seq (.af [ga 34 (.bin .num .eql) [.t 15,kc 2],gm 33 34]) (.cond (.t 33) (.bL [gl 0 1 (gm 35 4),gl 0 0 (ga 36 (.fa 41 1) [.t 1]),gl 0 0 (ga 37 (.ld none) [.t 36]),gl 0 0 (ga 38 (.ig .u8) [.t 37]),gl 0 0 (ga 39 (.fa 41 2) [.t 1]),gl 0 0 (ga 40 (.ld none) [.t 39]),gl 0 0 (ga 41 (.ig .u8) [.t 40]),gl 0 1 (ga 42 (.ja none [(.s (.int .u8 0)),(.s (.int .u8 0))] [0,1]) [.t 38,.t 41]),gl 1 2 (ga 43 (.app none 1) [.t 35,.t 42]),gl 0 2 (ga 44 (.fa 41 3) [.t 1]),gl 0 2 (ga 45 (.ld none) [.t 44]),gl 2 3 (ga 46 (.call 41) [.t 45]),gl 3 4 (ga 47 (.app none 1) [.t 43,.t 46]),gl 4 4 (gm 4 47)]) (.seq (.af [ga 49 (.bin .num .eql) [.t 15,kc 3],gm 48 49]) (.cond (.t 48) (.seq (.bL [gl 0 0 (gm 50 4),gl 0 0 (ga 51 (.fa 41 1) [.t 1]),gl 0 0 (ga 52 (.ld none) [.t 51]),gl 0 0 (ga 53 (.ig .u8) [.t 52]),gl 0 0 (ga 54 (.Fx none [(.s (.int .u8 0))] [0]) [.t 53]),gl 0 1 (ga 55 (.app none 1) [.t 50,.t 54]),gl 0 1 (ga 56 (.fa 41 3) [.t 1]),gl 0 1 (ga 57 (.ld none) [.t 56]),gl 1 2 (ga 58 (.call 41) [.t 57]),gl 2 3 (ga 59 (.app none 1) [.t 55,.t 58]),gl 0 3 (ga 60 (.fa 41 5) [.t 1]),gl 0 3 (ga 61 (.ld none) [.t 60]),gl 0 3 (ga 62 .len [.t 61]),gl 0 3 (ga 63 (.ig .u8) [.t 62]),gl 0 3 (ga 64 (.Fx none [(.s (.int .u8 0))] [0]) [.t 63]),gl 3 4 (ga 65 (.app none 1) [.t 59,.t 64]),gl 4 4 (gm 4 65)]) (.seq (.af [ga 66 (.fa 41 5) [.t 1],ga 67 (.ld none) [.t 66],ga 68 .len [.t 67],ga 69 .mv [kc 0]]) (.block 1 FV))) (.bL [gl 0 1 (gm 16 4),gl 0 0 (ga 17 (.fa 41 1) [.t 1]),gl 0 0 (ga 18 (.ld none) [.t 17]),gl 0 0 (ga 19 (.ig .u8) [.t 18]),gl 0 1 (ga 20 (.ja none [(.s (.int .u8 0))] [0]) [.t 19]),gl 1 2 (ga 21 (.app none 1) [.t 16,.t 20]),gl 0 2 (ga 22 (.fa 41 3) [.t 1]),gl 0 2 (ga 23 (.ld none) [.t 22]),gl 2 3 (ga 24 (.call 41) [.t 23]),gl 3 4 (ga 25 (.app none 1) [.t 21,.t 24]),gl 4 4 (gm 4 25)]))))))))) (.seq (.af [gm 78 4,gm 2 78,ga 3 .mv [kc 0]]) .ret)))))
abbrev F56 :Go.Vm.Fn:=⟨79,B56,[(.t 2),(.t 3)],true⟩
theorem Te :bH Tryz.prog ob Tryz.f56 true=some F56:=by kernel_rfl
theorem Tf :B56.fits 79=true:=by kernel_rfl
def B57 :Go.Vm.C:=(.seq (.af [ga 4 (.box (some 25)) [.t 0],ga 8 .mv [(.c (.al true none []))]]) (.seq (.seq (.af [gm 9 3,ga 10 .len [.t 9],ga 11 (.bin .num .gtr) [.t 10,kc 8184],gm 12 11,gw 12 false 13 .mv [.t 2],gw 12 false 14 .len [.t 13],gw 12 false 15 (.bin .num .gtr) [.t 14,kc 8192],ga 16 .pick [.t 12,kb true,.t 15]]) (.cond (.t 16) (.seq (.af [ga 8 .mv [(.c (.al true none []))]]) .ret) .skip)) (.seq (.bL [gl 0 0 (ga 17 (.ld (some 25)) [.t 4]),gl 0 0 (gm 18 1),gl 0 0 (gm 19 3),gl 0 1 (ga 20 (.call 89) [.t 17,.t 18,.t 19]),gl 0 1 (ga 21 (.ld (some 25)) [.t 4]),gl 0 1 (gm 22 1),gl 0 1 (gm 23 2),gl 0 1 (gm 24 3),gl 1 2 (ga 25 (.call 90) [.t 21,.t 22,.t 23,.t 24]),gl 2 3 (ga 26 (.app none 1) [.t 20,.t 25]),gl 3 3 (gm 8 26)]) .ret)))
abbrev F57 :Go.Vm.Fn:=⟨27,B57,[(.t 8)],true⟩
theorem Tg :bH Tryz.prog ob Tryz.f57 true=some F57:=by kernel_rfl
theorem Th :B57.fits 27=true:=by kernel_rfl
def B58 :Go.Vm.C:=(.seq (.af [ga 2 (.box (some 53)) [.t 0],ga 3 (.box (some 53)) [.t 1],ga 4 (.eJ (some 53) (.st 53 [ku,ku,ku,(bC 25),ki])) [],ga 5 .mv [kb false]]) (.seq (.seq (.af [ga 6 (.ld (some 53)) [.t 2],ga 7 (.call 67) [.t 6],ga 8 (.un .not) [.t 7],gm 9 8,gw 9 false 10 (.ld (some 53)) [.t 3],gw 9 false 11 (.call 67) [.t 10],gw 9 false 12 (.un .not) [.t 11],ga 13 .pick [.t 9,kb true,.t 12]]) (.cond (.t 13) (.seq (.af [ga 14 (.dF 53 [ku,ku,ku,(bC 25),ki] []) [],gn (.bd (some 53)) [.t 4,.t 14],ga 5 .mv [kb false]]) .ret) .skip)) (.seq (.af [ga 15 (.ld (some 53)) [.t 3],gn (.bd (some 53)) [.t 4,.t 15],ga 5 .mv [kb true]]) .ret)))
abbrev F58 :Go.Vm.Fn:=⟨16,B58,[(.cell 4 (some 53)),(.t 5)],true⟩
theorem Ti :bH Tryz.prog ob Tryz.f58 true=some F58:=by kernel_rfl
theorem Tj :B58.fits 16=true:=by kernel_rfl
def B59 :Go.Vm.C:=(.seq (.af [ga 2 (.box (some 25)) [.t 0],ga 3 (.box (some 25)) [.t 1],ga 4 (.eJ (some 25) (bC 25)) []]) (.seq (.af [ga 5 (.ld (some 25)) [.t 2],ga 6 (.qp 25 none false false) [.t 3],ga 7 (.call 79) [.t 5,.t 6],gn (.bd (some 25)) [.t 4,.t 7]]) .ret))
abbrev F59 :Go.Vm.Fn:=⟨8,B59,[(.cell 4 (some 25))],true⟩
theorem Tk :bH Tryz.prog ob Tryz.f59 true=some F59:=by kernel_rfl
theorem Tl :B59.fits 8=true:=by kernel_rfl
def FW :Go.Vm.C:=(.loop (.seq (.seq (.af [gm 13 4,ga 14 .len [.t 13],ga 15 (.bin .num .rem) [.t 14,kc 8],ga 16 (.bin .num .neq) [.t 15,kc 0]]) (.cond (.t 16) .skip (.exit 0))) (.block 1 (.af [gm 17 4,ga 18 (.ja none [(.s (.int .u8 0))] [0]) [(.c (.s (.int .u8 0)))],ga 19 (.app none 1) [.t 17,.t 18],gm 4 19]))))
def FX :Go.Vm.C:=(.loop (.seq (.af [ga 21 (.bin .num .lss) [.t 20,kc 8]]) (.seq (.cond (.t 21) .skip (.exit 2)) (.seq (.block 3 (.seq (.af [gm 22 20,gm 5 22]) (.af [gm 23 4,gm 24 0,ga 25 .len [.t 24],ga 26 (.ig .u64) [.t 25],gm 27 5,ga 28 (.bin .num .mul) [kc 8,.t 27],ga 29 (.bin .num .shr) [.t 26,.t 28],ga 30 (.ig .u8) [.t 29],ga 31 (.ja none [(.s (.int .u8 0))] [0]) [.t 30],ga 32 (.app none 1) [.t 23,.t 31],gm 4 32]))) (.af [ga 33 (.bin .num .add) [.t 20,kc 1],gm 20 33])))))
def FY :Go.Vm.C:=(.loop (.seq (.af [ga 53 (.bin .num .lss) [.t 52,kc 3]]) (.seq (.cond (.t 53) .skip (.exit 6)) (.seq (.block 7 (.af [ga 54 (.call 93) [.t 3]])) (.af [ga 55 (.bin .num .add) [.t 52,kc 1],gm 52 55])))))
def FZ :Go.Vm.C:=(.loop (.seq (.seq (.af [gm 34 4,ga 35 .len [.t 34],ga 36 (.bin .num .gtr) [.t 35,kc 0]]) (.cond (.t 36) .skip (.exit 4))) (.seq (.block 5 (.seq (.bL [gl 0 1 (ga 39 (.jj 155) [.t 3,kc 0]),gl 0 1 (ga 40 (.ld none) [.t 39]),gl 0 0 (gm 41 4),gl 0 1 (ga 42 (.call 92) [.t 41]),gl 1 1 (ga 43 (.bin .num .xor) [.t 40,.t 42]),gl 1 1 (ga 44 (.jj 155) [.t 3,kc 0]),gl 1 2 (gn (.bd none) [.t 44,.t 43])]) (.seq (.bL [gl 0 1 (ga 45 (.jj 155) [.t 3,kc 3]),gl 0 1 (ga 46 (.ld none) [.t 45]),gl 0 0 (gm 47 4),gl 0 0 (ga 48 (.jg none true false false) [.t 47,kc 4]),gl 0 1 (ga 49 (.call 92) [.t 48]),gl 1 1 (ga 50 (.bin .num .xor) [.t 46,.t 49]),gl 1 1 (ga 51 (.jj 155) [.t 3,kc 3]),gl 1 2 (gn (.bd none) [.t 51,.t 50])]) (.seq (.af [ga 52 .mv [kc 0]]) (.block 6 FY))))) (.af [gm 37 4,ga 38 (.jg none true false false) [.t 37,kc 8],gm 4 38]))))
def Ga :Go.Vm.C:=(.loop (.seq (.af [ga 57 (.bin .num .lss) [.t 56,kc 8]]) (.seq (.cond (.t 57) .skip (.exit 8)) (.seq (.block 9 (.af [ga 58 (.call 93) [.t 3]])) (.af [ga 59 (.bin .num .add) [.t 56,kc 1],gm 56 59])))))
def za :Go.Vm.C:=(.loop (.seq (.af [ga 61 (.bin .num .lss) [.t 60,kc 16]]) (.seq (.cond (.t 61) .skip (.exit 10)) (.seq (.block 11 (.seq (.af [gm 62 60,gm 7 62]) (.af [gm 63 7,gm 64 7,ga 65 (.bin .num .quo) [.t 64,kc 4],ga 66 (.jj 155) [.t 3,.t 65],ga 67 (.ld none) [.t 66],gm 68 7,ga 69 (.bin .num .rem) [.t 68,kc 4],ga 70 (.bin .num .mul) [kc 8,.t 69],ga 71 (.bin .num .shr) [.t 67,.t 70],ga 72 (.ig .u8) [.t 71],ga 73 (.jj 25) [.t 6,.t 63],gn (.bd none) [.t 73,.t 72]]))) (.af [ga 74 (.bin .num .add) [.t 60,kc 1],gm 60 74])))))
def zb :Go.Vm.C:=(.seq (.af [ga 75 (.ld (some 25)) [.t 6],gn (.bd (some 25)) [.t 2,.t 75]]) .ret)
def Gb :Go.Vm.C:=(.seq (.af [ga 6 (.eJ (some 25) (bC 25)) []]) (.seq (.seq (.af [ga 60 .mv [kc 0]]) (.block 10 za)) zb))
def Gc :Go.Vm.C:=(.seq (.seq (.af [ga 56 .mv [kc 0]]) (.block 8 Ga)) Gb)
def Gd :Go.Vm.C:=(.seq (.block 4 FZ) Gc)
def Ge :Go.Vm.C:=(.seq (.seq (.af [ga 20 .mv [kc 0]]) (.block 2 FX)) Gd)
def B60 :Go.Vm.C:=(.seq (.af [ga 2 (.eJ (some 25) (bC 25)) []]) (.seq (.af [ga 8 (.jf 155 [(.s (.int .u32 0)),(.s (.int .u32 0)),(.s (.int .u32 0)),(.s (.int .u32 0))] [0,1,2,3]) [(.c (.s (.int .u32 1668047222))),(.c (.s (.int .u32 1768383858))),(.c (.s (.int .u32 1801807216))),(.c (.s (.int .u32 1935763045)))],ga 3 (.eJ (some 155) (.arr 155 [(.s (.int .u32 0)),(.s (.int .u32 0)),(.s (.int .u32 0)),(.s (.int .u32 0))])) [],gn (.bd (some 155)) [.t 3,.t 8]]) (.seq (.af [gm 9 0,ga 10 (.call 91) [.t 9],ga 11 (.ja none [(.s (.int .u8 0))] [0]) [(.c (.s (.int .u8 128)))],ga 12 (.app none 1) [.t 10,.t 11],gm 4 12]) (.seq (.block 0 FW) Ge))))
abbrev F60 :Go.Vm.Fn:=⟨76,B60,[(.cell 2 (some 25))],true⟩
theorem Tm :bH Tryz.prog ob Tryz.f60 true=some F60:=by kernel_rfl
theorem Tn :B60.fits 76=true:=by kernel_rfl
def B61 :Go.Vm.C:=(.seq (.af [ga 6 .mv [kb false]]) (.seq (.seq (.af [gm 7 1,ga 8 (.call 94) [.t 7],ga 9 (.un .not) [.t 8],gm 10 9,gw 10 false 11 .mv [.t 2],gw 10 false 12 .len [.t 11],gw 10 false 13 (.bin .num .gtr) [.t 12,kc 8192],ga 14 .pick [.t 10,kb true,.t 13]]) (.cond (.t 14) (.seq (.af [ga 6 .mv [kb false]]) .ret) .skip)) (.seq (.bL [gl 0 1 (gm 15 0),gl 0 1 (gm 16 1),gl 0 0 (gm 17 2),gl 0 1 (ga 18 (.call 95) [.t 17]),gl 0 1 (ga 19 .aN [.t 15]),gl 0 1 (ga 20 (.fa 133 0) [.t 19]),gl 1 1 (ga 21 (.jj 132) [.t 20,.t 16]),gl 1 2 (gn (.bd (some 130)) [.t 21,.t 18])]) (.seq (.af [gm 22 0,ga 23 .aN [.t 22],ga 24 (.fa 133 2) [.t 23],ga 25 (.ld none) [.t 24],ga 26 (.bin .num .add) [.t 25,kc 1],ga 27 .aN [.t 22],ga 28 (.fa 133 2) [.t 27],gn (.bd none) [.t 28,.t 26]]) (.seq (.af [gm 29 0,gm 30 0,gm 31 1,gm 32 2,ga 33 (.call 91) [.t 32],ga 34 .aN [.t 29],ga 35 (.fa 133 3) [.t 34],gn (.bd none) [.t 35,.t 31],ga 36 .aN [.t 30],ga 37 (.fa 133 4) [.t 36],gn (.bd none) [.t 37,.t 33]]) (.seq (.af [ga 6 .mv [kb true]]) .ret))))))
abbrev F61 :Go.Vm.Fn:=⟨38,B61,[(.t 6)],false⟩
theorem To :bH Tryz.prog ob Tryz.f61 false=some F61:=by kernel_rfl
theorem Tp :B61.fits 38=true:=by kernel_rfl
def B62 :Go.Vm.C:=(.af [gm 2 0,gm 3 0,gm 4 0,ga 5 .aN [.t 4],ga 6 (.fa 133 0) [.t 5],ga 7 (.ld (some 132)) [.t 6],ga 8 .aN [.t 2],ga 9 (.fa 133 1) [.t 8],gn (.bd (some 132)) [.t 9,.t 7],ga 10 .aN [.t 3],ga 11 (.fa 133 2) [.t 10],gn (.bd none) [.t 11,kc 0]])
abbrev F62 :Go.Vm.Fn:=⟨12,B62,[],false⟩
theorem Tq :bH Tryz.prog ob Tryz.f62 false=some F62:=by kernel_rfl
theorem Tt :B62.fits 12=true:=by kernel_rfl
def B63 :Go.Vm.C:=(.seq (.af [ga 1 (.box (some 27)) [.t 0],ga 2 .mv [kc 0]]) (.seq (.af [ga 3 (.qp 27 none false false) [.t 1],ga 4 (.call 60) [.t 3],ga 5 (.idx 25) [.t 4,kc 0],ga 6 (.bin .num .rem) [.t 5,(.c (.s (.int .u8 16)))],ga 7 (.ig .i64) [.t 6],gm 2 7]) .ret))
abbrev F63 :Go.Vm.Fn:=⟨8,B63,[(.t 2)],true⟩
theorem Tu :bH Tryz.prog ob Tryz.f63 true=some F63:=by kernel_rfl
theorem Tv :B63.fits 8=true:=by kernel_rfl
def Fy :Go.Vm.C:=(.seq (.af [ga 3 (.box (some 31)) [.t 1],ga 4 .mv [kc 0]]) (.seq (.af [gm 8 0,ga 9 (.fa 31 0) [.t 3],ga 10 (.ld (some 27)) [.t 9],ga 11 (.call 96) [.t 8,.t 10],gm 7 11,ga 12 (.ext 0) [.t 7],ga 13 (.ext 1) [.t 7],gm 5 12,gm 6 13]) (.seq (.block 0 (.seq (.af [ga 27 (.ld (some 31)) [.t 3],ga 28 (.call 75) [.t 27],ga 29 (.un .not) [.t 28],gm 26 29]) (.cond (.t 26) (.seq (.af [ga 4 .mv [kc 1]]) .ret) (.seq (.af [gm 31 6,gm 30 31]) (.cond (.t 30) (.bL [gl 0 1 (gm 32 0),gl 0 1 (ga 33 .aN [.t 32]),gl 0 1 (ga 34 (.fa 146 0) [.t 33]),gl 0 1 (ga 35 (.ld none) [.t 34]),gl 0 1 (gm 36 5),gl 0 0 (ga 37 (.ld (some 31)) [.t 3]),gl 0 1 (ga 38 (.call 82) [.t 37]),gl 1 1 (ga 39 (.di (some 31)) [.t 35,.t 36]),gl 1 2 (gn (.bd (some 31)) [.t 39,.t 38])]) (.seq (.af [gm 41 0,ga 42 .aN [.t 41],ga 43 (.fa 146 0) [.t 42],ga 44 (.ld none) [.t 43],ga 45 .len [.t 44],ga 46 (.bin .num .geq) [.t 45,kc 4],gm 40 46]) (.cond (.t 40) (.seq (.af [ga 4 .mv [kc 13]]) .ret) (.bL [gl 0 3 (gm 14 0),gl 0 2 (gm 15 0),gl 0 2 (ga 16 .aN [.t 15]),gl 0 2 (ga 17 (.fa 146 0) [.t 16]),gl 0 2 (ga 18 (.ld none) [.t 17]),gl 0 2 (gm 19 5),gl 0 0 (ga 20 (.ld (some 31)) [.t 3]),gl 0 1 (ga 21 (.call 82) [.t 20]),gl 1 2 (ga 22 (.ja (some 31) [(.st 31 [(z4 27),ku,(bC 25),kx,ki,ki,(bC 25),(.s (.bool false)),(.s (.bool false))])] [0]) [.t 21]),gl 2 3 (ga 23 (.call 97) [.t 18,.t 19,.t 22]),gl 3 3 (ga 24 .aN [.t 14]),gl 3 3 (ga 25 (.fa 146 0) [.t 24]),gl 3 4 (gn (.bd none) [.t 25,.t 23])])))))))) (.seq (.af [ga 4 .mv [kc 0]]) .ret))))
abbrev F64 :Go.Vm.Fn:=⟨47,Fy,[(.t 4)],false⟩
theorem Tw :bH Tryz.prog ob Tryz.f64 false=some F64:=by kernel_rfl
theorem wO :Fy.fits 47=true:=by kernel_rfl
def wP :Go.Vm.C:=(.loop (.seq (.af [ga 15 (.bin .num .lss) [.t 14,.t 13]]) (.seq (.cond (.t 15) .skip (.exit 0)) (.seq (.block 1 (.seq (.af [gm 16 14,ga 17 (.di (some 31)) [.t 12,.t 14],ga 18 (.ld (some 31)) [.t 17],ga 7 (.eJ (some 31) (.st 31 [(z4 27),ku,(bC 25),kx,ki,ki,(bC 25),(.s (.bool false)),(.s (.bool false))])) [],gm 6 16,gn (.bd (some 31)) [.t 7,.t 18]]) (.seq (.seq (.af [ga 19 (.ld (some 31)) [.t 7],ga 20 (.call 75) [.t 19],ga 21 (.un .not) [.t 20],gm 22 21,gw 22 false 23 .mv [.t 6],gw 22 false 24 (.bin .num .gtr) [.t 23,kc 0],gw 22 false 25 .mv [.t 24],gw 25 true 26 .mv [.t 1],gw 25 true 27 .mv [.t 6],gw 25 true 28 (.bin .num .sub) [.t 27,kc 1],gw 25 true 29 (.di (some 31)) [.t 26,.t 28],gw 25 true 30 (.fa 31 0) [.t 29],gw 25 true 31 (.qp 27 none false false) [.t 30],gw 25 true 32 (.fa 31 0) [.t 7],gw 25 true 33 (.qp 27 none false false) [.t 32],gw 25 true 34 (.call 98) [.t 31,.t 33],gw 25 true 35 (.bin .num .geq) [.t 34,kc 0],gw 22 false 36 .pick [.t 25,.t 35,kb false],ga 37 .pick [.t 22,kb true,.t 36]]) (.cond (.t 37) (.seq (.af [ga 4 .mv [kc 1]]) .ret) .skip)) (.bL [gl 0 3 (gm 38 5),gl 0 2 (gm 39 5),gl 0 2 (ga 40 .aN [.t 39]),gl 0 2 (ga 41 (.fa 146 0) [.t 40]),gl 0 2 (ga 42 (.ld none) [.t 41]),gl 0 0 (ga 43 (.ld (some 31)) [.t 7]),gl 0 1 (ga 44 (.call 82) [.t 43]),gl 1 2 (ga 45 (.ja (some 31) [(.st 31 [(z4 27),ku,(bC 25),kx,ki,ki,(bC 25),(.s (.bool false)),(.s (.bool false))])] [0]) [.t 44]),gl 2 3 (ga 46 (.app (some 31) 96) [.t 42,.t 45]),gl 3 3 (ga 47 .aN [.t 38]),gl 3 3 (ga 48 (.fa 146 0) [.t 47]),gl 3 4 (gn (.bd none) [.t 48,.t 46])])))) (.af [ga 49 (.bin .num .add) [.t 14,kc 1],gm 14 49])))))
def wQ :Go.Vm.C:=(.seq (.af [gm 50 0,gm 51 5,ga 52 .aN [.t 51],ga 53 (.fa 146 0) [.t 52],ga 54 (.ld none) [.t 53],ga 55 .aN [.t 50],ga 56 (.fa 146 0) [.t 55],gn (.bd none) [.t 56,.t 54]]) (.seq (.af [ga 4 .mv [kc 0]]) .ret))
def B65 :Go.Vm.C:=(.seq (.af [ga 4 .mv [kc 0]]) (.seq (.seq (.af [gm 8 1,ga 9 .len [.t 8],ga 10 (.bin .num .gtr) [.t 9,kc 4]]) (.cond (.t 10) (.seq (.af [ga 4 .mv [kc 1]]) .ret) .skip)) (.seq (.af [ga 11 (.call 66) [],gm 5 11]) (.seq (.seq (.af [gm 12 1,ga 13 .len [.t 12],ga 14 .mv [kc 0]]) (.block 0 wP)) wQ))))
abbrev F65 :Go.Vm.Fn:=⟨57,B65,[(.t 4)],false⟩
theorem Tx :bH Tryz.prog ob Tryz.f65 false=some F65:=by kernel_rfl
theorem Ty :B65.fits 57=true:=by kernel_rfl
def B66 :Go.Vm.C:=(.seq (.af [ga 0 .mv [(.c (.s (.pointer none)))]]) (.seq (.af [ga 1 (.dF 146 [(.al true (some 31) [])] []) [],ga 2 (.box (some 146)) [.t 1],gm 0 2]) .ret))
abbrev F66 :Go.Vm.Fn:=⟨3,B66,[(.t 0)],false⟩
theorem Tz :bH Tryz.prog ob Tryz.f66 false=some F66:=by kernel_rfl
theorem TA :B66.fits 3=true:=by kernel_rfl
def CL :Go.Vm.C:=(.seq (.af [ga 1 (.box (some 53)) [.t 0],ga 2 .mv [kb false]]) (.seq (.af [ga 3 (.fa 53 0) [.t 1],ga 4 (.ld none) [.t 3],ga 5 (.bin .num .leq) [.t 4,(.c (.s (.int .u64 1099511627776)))],gm 6 5,gw 6 true 7 (.fa 53 1) [.t 1],gw 6 true 8 (.ld none) [.t 7],gw 6 true 9 (.bin .num .leq) [.t 8,(.c (.s (.int .u64 1099511627776)))],ga 10 .pick [.t 6,.t 9,kb false],gm 11 10,gw 11 true 12 (.fa 53 2) [.t 1],gw 11 true 13 (.ld none) [.t 12],gw 11 true 14 (.fa 53 1) [.t 1],gw 11 true 15 (.ld none) [.t 14],gw 11 true 16 (.bin .num .leq) [.t 13,.t 15],ga 17 .pick [.t 11,.t 16,kb false],gm 18 17,gw 18 true 19 (.fa 53 1) [.t 1],gw 18 true 20 (.ld none) [.t 19],gw 18 true 21 (.fa 53 2) [.t 1],gw 18 true 22 (.ld none) [.t 21],gw 18 true 23 (.bin .num .sub) [.t 20,.t 22],gw 18 true 24 (.bin .num .leq) [.t 23,(.c (.s (.int .u64 8)))],ga 25 .pick [.t 18,.t 24,kb false],gm 26 25,gw 26 true 27 (.fa 53 4) [.t 1],gw 26 true 28 (.ld none) [.t 27],gw 26 true 29 (.bin .num .eql) [.t 28,kc 0],gw 26 true 30 .mv [.t 29],gw 30 false 31 (.fa 53 4) [.t 1],gw 30 false 32 (.ld none) [.t 31],gw 30 false 33 (.bin .num .eql) [.t 32,kc 1],gw 26 true 34 .pick [.t 30,kb true,.t 33],ga 35 .pick [.t 26,.t 34,kb false],gm 36 35,gw 36 true 37 (.fa 53 1) [.t 1],gw 36 true 38 (.ld none) [.t 37],gw 36 true 39 (.bin .num .gtr) [.t 38,(.c ku)],gw 36 true 40 .mv [.t 39],gw 40 false 41 (.fa 53 3) [.t 1],gw 40 false 42 (.ld (some 25)) [.t 41],gw 40 false 43 (.jf 25 [(.s (.int .u8 0)),(.s (.int .u8 0)),(.s (.int .u8 0)),(.s (.int .u8 0)),(.s (.int .u8 0)),(.s (.int .u8 0)),(.s (.int .u8 0)),(.s (.int .u8 0)),(.s (.int .u8 0)),(.s (.int .u8 0)),(.s (.int .u8 0)),(.s (.int .u8 0)),(.s (.int .u8 0)),(.s (.int .u8 0)),(.s (.int .u8 0)),(.s (.int .u8 0))] []) [],gw 40 false 44 (.zd 25 .u8 false) [.t 42,.t 43],gw 36 true 45 .pick [.t 40,kb true,.t 44],ga 46 .pick [.t 36,.t 45,kb false],gm 2 46]) .ret))
abbrev F67 :Go.Vm.Fn:=⟨47,CL,[(.t 2)],true⟩
theorem TB :bH Tryz.prog ob Tryz.f67 true=some F67:=by kernel_rfl
theorem TC :CL.fits 47=true:=by kernel_rfl
def B68 :Go.Vm.C:=(.seq (.af [ga 3 (.box (some 25)) [.t 0],ga 4 (.box (some 53)) [.t 1],ga 6 .mv [(.c (.al true none []))],ga 7 .mv [kc 0]]) (.seq (.seq (.af [gm 8 2,ga 9 .len [.t 8],ga 10 (.bin .num .gtr) [.t 9,kc 8184]]) (.cond (.t 10) (.seq (.af [ga 6 .mv [(.c (.al true none []))],ga 7 .mv [kc 3]]) .ret) .skip)) (.seq (.af [ga 11 (.ld (some 25)) [.t 3],ga 12 (.fa 53 1) [.t 4],ga 13 (.ld none) [.t 12],ga 14 (.ja none [(.s (.int .u8 0)),(.s (.int .u8 0)),(.s (.int .u8 0)),(.s (.int .u8 0)),(.s (.int .u8 0))] [0,1,2,3,4]) [(.c (.s (.int .u8 105))),(.c (.s (.int .u8 109))),(.c (.s (.int .u8 97))),(.c (.s (.int .u8 103))),(.c (.s (.int .u8 101)))],ga 15 .qX [.t 14],gm 16 2,ga 17 (.call 57) [.t 11,.t 13,.t 15,.t 16],gm 6 17,ga 7 .mv [kc 0]]) .ret)))
abbrev F68 :Go.Vm.Fn:=⟨18,B68,[(.t 6),(.t 7)],true⟩
theorem TD :bH Tryz.prog ob Tryz.f68 true=some F68:=by kernel_rfl
theorem TE :B68.fits 18=true:=by kernel_rfl
def B69 :Go.Vm.C:=(.seq (.af [ga 1 (.box (some 53)) [.t 0],ga 2 .mv [kc 0]]) (.seq (.af [ga 3 (.fa 53 4) [.t 1],ga 4 (.ld none) [.t 3],ga 5 (.bin .num .sub) [kc 1,.t 4],gm 2 5]) .ret))
abbrev F69 :Go.Vm.Fn:=⟨6,B69,[(.t 2)],true⟩
theorem TF :bH Tryz.prog ob Tryz.f69 true=some F69:=by kernel_rfl
theorem TH :B69.fits 6=true:=by kernel_rfl
def B70 :Go.Vm.C:=(.seq (.af [ga 2 (.box (some 53)) [.t 0],ga 3 (.box (some 25)) [.t 1],ga 4 (.eJ (some 53) (.st 53 [ku,ku,ku,(bC 25),ki])) [],ga 5 .mv [kb false]]) (.seq (.seq (.af [ga 7 (.fa 53 1) [.t 2],ga 8 (.ld none) [.t 7],ga 9 (.fa 53 2) [.t 2],ga 10 (.ld none) [.t 9],ga 11 (.bin .num .leq) [.t 8,.t 10]]) (.cond (.t 11) (.seq (.af [ga 12 (.dF 53 [ku,ku,ku,(bC 25),ki] []) [],gn (.bd (some 53)) [.t 4,.t 12],ga 5 .mv [kb false]]) .ret) .skip)) (.seq (.af [ga 13 (.ld (some 53)) [.t 2],ga 6 (.eJ (some 53) (.st 53 [ku,ku,ku,(bC 25),ki])) [],gn (.bd (some 53)) [.t 6,.t 13]]) (.seq (.bL [gl 0 0 (ga 14 (.fa 53 1) [.t 2]),gl 0 0 (ga 15 (.ld none) [.t 14]),gl 0 0 (ga 16 (.fa 53 4) [.t 2]),gl 0 0 (ga 17 (.ld none) [.t 16]),gl 0 1 (ga 18 (.bin .num .sub) [kc 1,.t 17]),gl 0 2 (ga 19 (.ld (some 25)) [.t 3]),gl 0 0 (ga 20 (.fa 53 2) [.t 2]),gl 0 1 (gn (.bd none) [.t 20,.t 15]),gl 1 1 (ga 21 (.fa 53 4) [.t 2]),gl 1 2 (gn (.bd none) [.t 21,.t 18]),gl 2 2 (ga 22 (.fa 53 3) [.t 2]),gl 2 3 (gn (.bd (some 25)) [.t 22,.t 19])]) (.seq (.af [ga 23 (.ld (some 53)) [.t 6],ga 24 (.ld (some 53)) [.t 2],ga 25 (.call 58) [.t 23,.t 24],ga 26 (.ext 0) [.t 25],ga 27 (.ext 1) [.t 25],gn (.bd (some 53)) [.t 4,.t 26],gm 5 27]) .ret)))))
abbrev F70 :Go.Vm.Fn:=⟨28,B70,[(.cell 4 (some 53)),(.t 5)],true⟩
theorem TI :bH Tryz.prog ob Tryz.f70 true=some F70:=by kernel_rfl
theorem TJ :B70.fits 28=true:=by kernel_rfl
def B71 :Go.Vm.C:=(.seq (.af [ga 2 (.eJ (some 25) (bC 25)) []]) (.seq (.af [gm 3 0,ga 4 (.call 60) [.t 3],gn (.bd (some 25)) [.t 2,.t 4]]) .ret))
abbrev F71 :Go.Vm.Fn:=⟨5,B71,[(.cell 2 (some 25))],true⟩
theorem TK :bH Tryz.prog ob Tryz.f71 true=some F71:=by kernel_rfl
theorem TL :B71.fits 5=true:=by kernel_rfl
def Bn :Go.Vm.C:=(.loop (.seq (.af [ga 39 (.bin .num .lss) [.t 38,.t 37]]) (.seq (.cond (.t 39) .skip (.exit 0)) (.seq (.block 1 (.seq (.af [gm 40 38,gm 13 40]) (.seq (.af [gm 42 1,gm 43 13,ga 44 (.bin .num .add) [kc 2,.t 43],ga 45 (.call 100) [.t 42,.t 44],gm 41 45,ga 46 (.ext 0) [.t 41],ga 47 (.ext 1) [.t 41],gm 14 46,gm 15 47]) (.seq (.af [ga 49 (.ld (some 25)) [.t 3],ga 50 (.fa 53 2) [.t 5],ga 51 (.ld none) [.t 50],gm 52 13,ga 53 (.ig .u64) [.t 52],ga 54 (.bin .num .add) [.t 51,.t 53],ga 55 (.bin .num .add) [.t 54,(.c (.s (.int .u64 1)))],ga 56 (.ld (some 25)) [.t 10],gm 57 14,ga 58 (.call 101) [.t 49,.t 55,.t 56,.t 57],gm 48 58,ga 59 (.ext 0) [.t 48],ga 60 (.ext 1) [.t 48],ga 16 (.eJ (some 41) (.st 41 [ki,ki,ki,ku,(.st 31 [(z4 27),ku,(bC 25),kx,ki,ki,(bC 25),(.s (.bool false)),(.s (.bool false))]),(.al false (some 31) [])])) [],gn (.bd (some 41)) [.t 16,.t 59],gm 17 60]) (.seq (.seq (.af [gm 61 15,ga 62 (.un .not) [.t 61],gm 63 62,gw 63 false 64 .mv [.t 17],gw 63 false 65 (.bin .num .neq) [.t 64,kc 0],ga 66 .pick [.t 63,kb true,.t 65]]) (.cond (.t 66) (.seq (.af [ga 6 .mv [(.c (.al true none []))],ga 7 .mv [(.c (.al true (some 41) []))],ga 8 .mv [kc 30]]) .ret) .skip)) (.seq (.af [gm 67 12,ga 68 (.ld (some 41)) [.t 16],ga 69 (.ja (some 41) [(.st 41 [ki,ki,ki,ku,(.st 31 [(z4 27),ku,(bC 25),kx,ki,ki,(bC 25),(.s (.bool false)),(.s (.bool false))]),(.al false (some 31) [])])] [0]) [.t 68],ga 70 (.app (some 41) 152) [.t 67,.t 69],gm 12 70]) (.af [ga 71 (.ld (some 25)) [.t 10],gm 72 14,ga 73 (.call 29) [.t 71,.t 72],gn (.bd (some 25)) [.t 10,.t 73]]))))))) (.af [ga 74 (.bin .num .add) [.t 38,kc 1],gm 38 74])))))
def Bo :Go.Vm.C:=(.seq (.seq (.af [ga 75 (.ld (some 25)) [.t 10],ga 76 (.fa 53 3) [.t 5],ga 77 (.ld (some 25)) [.t 76],ga 78 (.zd 25 .u8 true) [.t 75,.t 77]]) (.cond (.t 78) (.seq (.af [ga 6 .mv [(.c (.al true none []))],ga 7 .mv [(.c (.al true (some 41) []))],ga 8 .mv [kc 30]]) .ret) .skip)) (.seq (.af [gm 79 9,gm 80 12,gm 6 79,gm 7 80,ga 8 .mv [kc 0]]) .ret))
def B72 :Go.Vm.C:=(.seq (.af [ga 3 (.box (some 25)) [.t 0],ga 5 (.box (some 53)) [.t 2],ga 6 .mv [(.c (.al true none []))],ga 7 .mv [(.c (.al true (some 41) []))],ga 8 .mv [kc 0]]) (.seq (.seq (.af [gm 18 1,ga 19 (.bin .ptr .eql) [.t 18,(.c (.s (.pointer none)))],gm 20 19,gw 20 false 21 (.ld (some 53)) [.t 5],gw 20 false 22 (.call 67) [.t 21],gw 20 false 23 (.un .not) [.t 22],ga 24 .pick [.t 20,kb true,.t 23]]) (.cond (.t 24) (.seq (.af [ga 6 .mv [(.c (.al true none []))],ga 7 .mv [(.c (.al true (some 41) []))],ga 8 .mv [kc 1]]) .ret) .skip)) (.seq (.af [ga 26 (.ld (some 25)) [.t 3],gm 27 1,ga 28 (.ld (some 53)) [.t 5],ga 29 (.call 99) [.t 26,.t 27,.t 28],gm 25 29,ga 30 (.ext 0) [.t 25],ga 31 (.ext 1) [.t 25],ga 32 (.ext 2) [.t 25],ga 10 (.eJ (some 25) (bC 25)) [],gm 9 30,gn (.bd (some 25)) [.t 10,.t 31],gm 11 32]) (.seq (.seq (.af [gm 33 11,ga 34 (.bin .num .neq) [.t 33,kc 0]]) (.cond (.t 34) (.seq (.af [gm 35 11,ga 6 .mv [(.c (.al true none []))],ga 7 .mv [(.c (.al true (some 41) []))],gm 8 35]) .ret) .skip)) (.seq (.af [ga 12 .mv [(.c (.al true (some 41) []))]]) (.seq (.seq (.af [ga 36 (.ld (some 53)) [.t 5],ga 37 (.call 34) [.t 36],ga 38 .mv [kc 0]]) (.block 0 Bn)) Bo))))))
abbrev F72 :Go.Vm.Fn:=⟨81,B72,[(.t 6),(.t 7),(.t 8)],true⟩
theorem TM :bH Tryz.prog ob Tryz.f72 true=some F72:=by kernel_rfl
theorem TN :B72.fits 81=true:=by kernel_rfl
def B73 :Go.Vm.C:=(.seq (.af [ga 6 .mv [(.c (.s (.pointer none)))],ga 7 .mv [kc 0]]) (.seq (.af [gm 11 0,gm 12 1,gm 13 2,ga 14 (.call 102) [.t 11,.t 12,.t 13],gm 10 14,ga 15 (.ext 0) [.t 10],ga 16 (.ext 1) [.t 10],gm 8 15,gm 9 16]) (.seq (.seq (.af [gm 17 9,ga 18 (.un .not) [.t 17],gm 19 18,gw 19 false 20 .mv [.t 8],gw 19 false 21 (.call 16) [.t 20],gw 19 false 22 .mv [.t 2],gw 19 false 23 (.call 103) [.t 21,.t 22],gw 19 false 24 (.un .not) [.t 23],ga 25 .pick [.t 19,kb true,.t 24]]) (.cond (.t 25) (.seq (.af [ga 6 .mv [(.c (.s (.pointer none)))],ga 7 .mv [kc 12]]) .ret) .skip)) (.seq (.af [gm 26 8,gm 6 26,ga 7 .mv [kc 0]]) .ret))))
abbrev F73 :Go.Vm.Fn:=⟨27,B73,[(.t 6),(.t 7)],false⟩
theorem TO :bH Tryz.prog ob Tryz.f73 false=some F73:=by kernel_rfl
theorem TP :B73.fits 27=true:=by kernel_rfl
def B74 :Go.Vm.C:=(.seq (.af [ga 2 .mv [kb false]]) (.seq (.af [gm 3 0,ga 4 (.bin .num .geq) [.t 3,kc 0],gm 5 4,gw 5 true 6 .mv [.t 0],gw 5 true 7 (.bin .num .lss) [.t 6,kc 16],ga 8 .pick [.t 5,.t 7,kb false],gm 2 8]) .ret))
abbrev F74 :Go.Vm.Fn:=⟨9,B74,[(.t 2)],true⟩
theorem TQ :bH Tryz.prog ob Tryz.f74 true=some F74:=by kernel_rfl
theorem TS :B74.fits 9=true:=by kernel_rfl
def wR :Go.Vm.C:=(.seq (.af [ga 1 (.box (some 31)) [.t 0],ga 2 .mv [kb false]]) (.seq (.block 0 (.seq (.af [ga 4 (.fa 31 1) [.t 1],ga 5 (.ld none) [.t 4],ga 6 (.bin .num .lss) [.t 5,(.c (.s (.int .u64 1)))],gm 7 6,gw 7 false 8 (.fa 31 1) [.t 1],gw 7 false 9 (.ld none) [.t 8],gw 7 false 10 (.bin .num .gtr) [.t 9,(.c (.s (.int .u64 1099511627776)))],ga 11 .pick [.t 7,kb true,.t 10],gm 3 11]) (.cond (.t 3) (.seq (.af [ga 2 .mv [kb false]]) .ret) (.seq (.af [ga 13 (.fa 31 7) [.t 1],ga 14 (.ld none) [.t 13],gm 12 14]) (.cond (.t 12) (.seq (.af [ga 15 (.fa 31 2) [.t 1],ga 16 (.ld (some 25)) [.t 15],ga 17 (.jf 25 [(.s (.int .u8 0)),(.s (.int .u8 0)),(.s (.int .u8 0)),(.s (.int .u8 0)),(.s (.int .u8 0)),(.s (.int .u8 0)),(.s (.int .u8 0)),(.s (.int .u8 0)),(.s (.int .u8 0)),(.s (.int .u8 0)),(.s (.int .u8 0)),(.s (.int .u8 0)),(.s (.int .u8 0)),(.s (.int .u8 0)),(.s (.int .u8 0)),(.s (.int .u8 0))] []) [],ga 18 (.zd 25 .u8 false) [.t 16,.t 17],gm 19 18,gw 19 true 20 (.fa 31 6) [.t 1],gw 19 true 21 (.ld (some 25)) [.t 20],gw 19 true 22 (.jf 25 [(.s (.int .u8 0)),(.s (.int .u8 0)),(.s (.int .u8 0)),(.s (.int .u8 0)),(.s (.int .u8 0)),(.s (.int .u8 0)),(.s (.int .u8 0)),(.s (.int .u8 0)),(.s (.int .u8 0)),(.s (.int .u8 0)),(.s (.int .u8 0)),(.s (.int .u8 0)),(.s (.int .u8 0)),(.s (.int .u8 0)),(.s (.int .u8 0)),(.s (.int .u8 0))] []) [],gw 19 true 23 (.zd 25 .u8 false) [.t 21,.t 22],ga 24 .pick [.t 19,.t 23,kb false],gm 25 24,gw 25 true 26 (.fa 31 3) [.t 1],gw 25 true 27 (.ld none) [.t 26],gw 25 true 28 .len [.t 27],gw 25 true 29 (.bin .num .eql) [.t 28,kc 0],ga 30 .pick [.t 25,.t 29,kb false],gm 31 30,gw 31 true 32 (.fa 31 4) [.t 1],gw 31 true 33 (.ld none) [.t 32],gw 31 true 34 (.bin .num .eql) [.t 33,kc 0],ga 35 .pick [.t 31,.t 34,kb false],gm 36 35,gw 36 true 37 (.fa 31 5) [.t 1],gw 36 true 38 (.ld none) [.t 37],gw 36 true 39 (.bin .num .eql) [.t 38,kc 0],ga 40 .pick [.t 36,.t 39,kb false],gm 2 40]) .ret) .skip))))) (.seq (.af [ga 41 (.fa 31 8) [.t 1],ga 42 (.ld none) [.t 41],ga 43 (.un .not) [.t 42],gm 44 43,gw 44 true 45 (.fa 31 4) [.t 1],gw 44 true 46 (.ld none) [.t 45],gw 44 true 47 (.bin .num .geq) [.t 46,kc 1],ga 48 .pick [.t 44,.t 47,kb false],gm 49 48,gw 49 true 50 (.fa 31 4) [.t 1],gw 49 true 51 (.ld none) [.t 50],gw 49 true 52 (.bin .num .leq) [.t 51,kc 32],ga 53 .pick [.t 49,.t 52,kb false],gm 54 53,gw 54 true 55 (.fa 31 5) [.t 1],gw 54 true 56 (.ld none) [.t 55],gw 54 true 57 (.bin .num .geq) [.t 56,kc 0],ga 58 .pick [.t 54,.t 57,kb false],gm 59 58,gw 59 true 60 (.fa 31 5) [.t 1],gw 59 true 61 (.ld none) [.t 60],gw 59 true 62 (.fa 31 4) [.t 1],gw 59 true 63 (.ld none) [.t 62],gw 59 true 64 (.bin .num .lss) [.t 61,.t 63],ga 65 .pick [.t 59,.t 64,kb false],gm 66 65,gw 66 true 67 (.fa 31 3) [.t 1],gw 66 true 68 (.ld none) [.t 67],gw 66 true 69 .len [.t 68],gw 66 true 70 (.bin .num .leq) [.t 69,kc 64],ga 71 .pick [.t 66,.t 70,kb false],gm 2 71]) .ret)))
abbrev F75 :Go.Vm.Fn:=⟨72,wR,[(.t 2)],true⟩
theorem TT :bH Tryz.prog ob Tryz.f75 true=some F75:=by kernel_rfl
theorem MV :wR.fits 72=true:=by kernel_rfl
def B76 :Go.Vm.C:=(.seq (.af [ga 1 (.box (some 31)) [.t 0],ga 2 .mv [(.c (.al true none []))]]) (.seq (.af [ga 3 .mv [(.c (.s (.int .u8 0)))]]) (.seq (.block 0 (.seq (.af [ga 5 (.fa 31 8) [.t 1],ga 6 (.ld none) [.t 5],gm 4 6]) (.cond (.t 4) (.af [ga 3 .mv [(.c (.s (.int .u8 3)))]]) (.seq (.af [ga 8 (.fa 31 7) [.t 1],ga 9 (.ld none) [.t 8],gm 7 9]) (.cond (.t 7) (.af [ga 3 .mv [(.c (.s (.int .u8 1)))]]) .skip))))) (.seq (.bL [gl 0 1 (ga 10 (.fa 31 0) [.t 1]),gl 0 1 (ga 11 (.qp 27 none false false) [.t 10]),gl 0 0 (ga 12 (.fa 31 1) [.t 1]),gl 0 0 (ga 13 (.ld none) [.t 12]),gl 0 1 (ga 14 (.call 41) [.t 13]),gl 0 1 (gm 15 3),gl 0 1 (ga 16 (.fa 31 4) [.t 1]),gl 0 1 (ga 17 (.ld none) [.t 16]),gl 0 1 (ga 18 (.ig .u8) [.t 17]),gl 0 1 (ga 19 (.fa 31 5) [.t 1]),gl 0 1 (ga 20 (.ld none) [.t 19]),gl 0 1 (ga 21 (.ig .u8) [.t 20]),gl 0 1 (ga 22 (.Fx none [(.s (.int .u8 0)),(.s (.int .u8 0)),(.s (.int .u8 0))] [0,1,2]) [.t 15,.t 18,.t 21]),gl 0 1 (ga 23 (.fa 31 2) [.t 1]),gl 0 1 (ga 24 (.qp 25 none false false) [.t 23]),gl 0 1 (ga 25 (.fa 31 6) [.t 1]),gl 0 1 (ga 26 (.qp 25 none false false) [.t 25]),gl 0 1 (ga 27 (.fa 31 3) [.t 1]),gl 0 1 (ga 28 (.ld none) [.t 27]),gl 0 1 (ga 29 .len [.t 28]),gl 0 1 (ga 30 (.ig .u8) [.t 29]),gl 0 1 (ga 31 (.Fx none [(.s (.int .u8 0))] [0]) [.t 30]),gl 0 1 (ga 32 (.fa 31 3) [.t 1]),gl 0 1 (ga 33 (.ld none) [.t 32]),gl 1 1 (ga 34 (.Fx none [kx,kx,kx,kx,kx,kx,kx] [0,1,2,3,4,5,6]) [.t 11,.t 14,.t 22,.t 24,.t 26,.t 31,.t 33]),gl 1 1 (ga 35 (.ie 104) [.t 34]),gl 1 1 (gm 2 35)]) .ret))))
abbrev F76 :Go.Vm.Fn:=⟨36,B76,[(.t 2)],true⟩
theorem TU :bH Tryz.prog ob Tryz.f76 true=some F76:=by kernel_rfl
theorem TV :B76.fits 36=true:=by kernel_rfl
def B77 :Go.Vm.C:=(.seq (.af [gm 4 0,gm 5 0,ga 6 .aN [.t 5],ga 7 (.fa 133 1) [.t 6],ga 8 (.ld (some 132)) [.t 7],ga 9 .aN [.t 4],ga 10 (.fa 133 0) [.t 9],gn (.bd (some 132)) [.t 10,.t 8]]) (.seq (.seq (.af [gm 11 0,ga 12 .aN [.t 11],ga 13 (.fa 133 2) [.t 12],ga 14 (.ld none) [.t 13],ga 15 (.bin .num .gtr) [.t 14,kc 0],gm 16 15,gw 16 true 17 .mv [.t 1],gw 16 true 18 (.bin .num .gtr) [.t 17,kc 0],ga 19 .pick [.t 16,.t 18,kb false]]) (.cond (.t 19) (.bL [gl 0 1 (gm 20 0),gl 0 1 (gm 21 0),gl 0 1 (ga 22 .aN [.t 21]),gl 0 1 (ga 23 (.fa 133 3) [.t 22]),gl 0 1 (ga 24 (.ld none) [.t 23]),gl 0 0 (gm 25 0),gl 0 0 (ga 26 .aN [.t 25]),gl 0 0 (ga 27 (.fa 133 4) [.t 26]),gl 0 0 (ga 28 (.ld none) [.t 27]),gl 0 0 (gm 29 1),gl 0 0 (gm 30 0),gl 0 0 (ga 31 .aN [.t 30]),gl 0 0 (ga 32 (.fa 133 4) [.t 31]),gl 0 0 (ga 33 (.ld none) [.t 32]),gl 0 0 (ga 34 .len [.t 33]),gl 0 0 (ga 35 .min [.t 29,.t 34]),gl 0 0 (ga 36 (.jg none false true false) [.t 28,.t 35]),gl 0 1 (ga 37 (.call 95) [.t 36]),gl 0 1 (ga 38 .aN [.t 20]),gl 0 1 (ga 39 (.fa 133 0) [.t 38]),gl 1 1 (ga 40 (.jj 132) [.t 39,.t 24]),gl 1 2 (gn (.bd (some 130)) [.t 40,.t 37])]) .skip)) (.af [gm 41 0,ga 42 (.call 62) [.t 41]])))
abbrev F77 :Go.Vm.Fn:=⟨43,B77,[],false⟩
theorem TX :bH Tryz.prog ob Tryz.f77 false=some F77:=by kernel_rfl
theorem TY :B77.fits 43=true:=by kernel_rfl
def B78 :Go.Vm.C:=(.seq (.af [ga 4 .mv [kc 0]]) (.seq (.seq (.af [gm 5 0,ga 6 (.call 74) [.t 5],ga 7 (.un .not) [.t 6]]) (.cond (.t 7) (.seq (.af [ga 4 .mv [kc 0]]) .ret) .skip)) (.seq (.af [gm 8 0,gm 9 1,ga 10 .min [.t 9,kc 8],ga 11 .max [kc 1,.t 10],ga 12 (.bin .num .rem) [.t 8,.t 11],gm 4 12]) .ret)))
abbrev F78 :Go.Vm.Fn:=⟨13,B78,[(.t 4)],true⟩
theorem TZ :bH Tryz.prog ob Tryz.f78 true=some F78:=by kernel_rfl
theorem T0 :B78.fits 13=true:=by kernel_rfl
def B79 :Go.Vm.C:=(.seq (.af [ga 2 (.box (some 25)) [.t 0],ga 4 (.eJ (some 25) (bC 25)) []]) (.seq (.af [ga 5 (.qp 25 none false false) [.t 2],ga 6 (.call 91) [.t 5],gm 7 1,ga 8 (.app none 1) [.t 6,.t 7],ga 9 (.call 60) [.t 8],gn (.bd (some 25)) [.t 4,.t 9]]) .ret))
abbrev F79 :Go.Vm.Fn:=⟨10,B79,[(.cell 4 (some 25))],true⟩
theorem T1 :bH Tryz.prog ob Tryz.f79 true=some F79:=by kernel_rfl
theorem T3 :B79.fits 10=true:=by kernel_rfl
def B80 :Go.Vm.C:=(.seq (.af [ga 2 (.box (some 25)) [.t 0],ga 4 (.eJ (some 25) (bC 25)) []]) (.seq (.af [ga 5 (.ja none [] []) [],ga 6 (.qp 25 none false false) [.t 2],ga 7 (.app none 1) [.t 5,.t 6],gm 8 1,ga 9 (.app none 1) [.t 7,.t 8],ga 10 (.call 105) [.t 9],gn (.bd (some 25)) [.t 4,.t 10]]) .ret))
abbrev F80 :Go.Vm.Fn:=⟨11,B80,[(.cell 4 (some 25))],true⟩
theorem T4 :bH Tryz.prog ob Tryz.f80 true=some F80:=by kernel_rfl
theorem T5 :B80.fits 11=true:=by kernel_rfl
def Bp :Go.Vm.C:=(.seq (.af [ga 7 (.box none) [.t 1],ga 12 .mv [kb false]]) (.seq (.block 0 (.seq (.af [ga 14 (.ld none) [.t 7],ga 15 (.call 74) [.t 14],ga 16 (.un .not) [.t 15],gm 17 16,gw 17 false 18 .mv [.t 2],gw 17 false 19 (.bin .num .lss) [.t 18,kc 0],ga 20 .pick [.t 17,kb true,.t 19],gm 21 20,gw 21 false 22 .mv [.t 2],gw 21 false 23 (.bin .num .gtr) [.t 22,kc 2],ga 24 .pick [.t 21,kb true,.t 23],gm 25 24,gw 25 false 26 .mv [.t 3],gw 25 false 27 (.bin .num .lss) [.t 26,(.c (.s (.int .u64 1)))],ga 28 .pick [.t 25,kb true,.t 27],gm 29 28,gw 29 false 30 .mv [.t 3],gw 29 false 31 (.bin .num .gtr) [.t 30,(.c (.s (.int .u64 1099511627776)))],ga 32 .pick [.t 29,kb true,.t 31],gm 13 32]) (.cond (.t 13) (.seq (.af [ga 12 .mv [kb false]]) .ret) (.seq (.seq (.af [gm 34 2,ga 35 (.bin .num .eql) [.t 34,kc 2],gm 36 35,gw 36 true 37 .mv [.t 4],gw 36 true 38 (.bin .num .lss) [.t 37,kc 0],gw 36 true 39 .mv [.t 38],gw 39 false 40 .mv [.t 4],gw 39 false 41 .mv [.t 0],gw 39 false 42 .aN [.t 41],gw 39 false 43 (.fa 101 1) [.t 42],gw 39 false 44 (.ld none) [.t 43],gw 39 false 45 (.bin .num .geq) [.t 40,.t 44],gw 36 true 46 .pick [.t 39,kb true,.t 45],gw 36 true 47 .mv [.t 46],gw 47 false 48 .mv [.t 4],gw 47 false 49 .mv [.t 0],gw 47 false 50 .aN [.t 49],gw 47 false 51 (.fa 101 0) [.t 50],gw 47 false 52 (.ld none) [.t 51],gw 47 false 53 (.bin .num .eql) [.t 48,.t 52],gw 36 true 54 .pick [.t 47,kb true,.t 53],ga 55 .pick [.t 36,.t 54,kb false],gm 33 55]) (.cond (.t 33) .skip (.af [gm 56 2,ga 57 (.bin .num .neq) [.t 56,kc 2],gm 58 57,gw 58 true 59 .mv [.t 4],gw 58 true 60 (.bin .num .neq) [.t 59,kc 0],ga 61 .pick [.t 58,.t 60,kb false],gm 33 61]))) (.cond (.t 33) (.seq (.af [ga 12 .mv [kb false]]) .ret) (.seq (.af [gm 63 2,ga 64 (.bin .num .eql) [.t 63,kc 0],gm 65 64,gw 65 true 66 .mv [.t 5],gw 65 true 67 .len [.t 66],gw 65 true 68 (.bin .num .gtr) [.t 67,kc 0],ga 69 .pick [.t 65,.t 68,kb false],gm 62 69]) (.cond (.t 62) (.seq (.af [ga 12 .mv [kb false]]) .ret) .skip))))))) (.seq (.af [gm 70 5,ga 71 (.mkf 106) [.t 7],ga 72 (.call 87) [.t 70,.t 71],ga 73 (.un .not) [.t 72],gm 12 73]) .ret)))
abbrev F81 :Go.Vm.Fn:=⟨74,Bp,[(.t 12)],true⟩
theorem T6 :bH Tryz.prog ob Tryz.f81 true=some F81:=by kernel_rfl
theorem T7 :Bp.fits 74=true:=by kernel_rfl
def B82 :Go.Vm.C:=(.seq (.af [ga 1 (.box (some 31)) [.t 0],ga 2 (.eJ (some 31) (.st 31 [(z4 27),ku,(bC 25),kx,ki,ki,(bC 25),(.s (.bool false)),(.s (.bool false))])) []]) (.seq (.af [ga 3 (.fa 31 3) [.t 1],ga 4 (.ld none) [.t 3],ga 5 (.call 91) [.t 4],ga 6 (.fa 31 3) [.t 1],gn (.bd none) [.t 6,.t 5]]) (.seq (.af [ga 7 (.ld (some 31)) [.t 1],gn (.bd (some 31)) [.t 2,.t 7]]) .ret)))
abbrev F82 :Go.Vm.Fn:=⟨8,B82,[(.cell 2 (some 31))],true⟩
theorem T8 :bH Tryz.prog ob Tryz.f82 true=some F82:=by kernel_rfl
theorem T9 :B82.fits 8=true:=by kernel_rfl
def B83 :Go.Vm.C:=(.seq (.af [ga 1 (.box (some 31)) [.t 0],ga 2 .mv [kb false]]) (.seq (.af [ga 3 (.ld (some 31)) [.t 1],ga 4 (.dF 31 [(z4 27),ku,(bC 25),kx,ki,ki,(bC 25),(.s (.bool false)),(.s (.bool false))] []) [],ga 5 (.call 107) [.t 3,.t 4],gm 2 5]) .ret))
abbrev F83 :Go.Vm.Fn:=⟨6,B83,[(.t 2)],true⟩
theorem Ua :bH Tryz.prog ob Tryz.f83 true=some F83:=by kernel_rfl
theorem Ub :B83.fits 6=true:=by kernel_rfl
def Gf :Go.Vm.C:=(.loop (.seq (.af [ga 11 (.bin .num .lss) [.t 10,.t 9]]) (.seq (.cond (.t 11) .skip (.exit 0)) (.seq (.block 1 (.seq (.af [gm 12 10,ga 13 (.di (some 31)) [.t 8,.t 10],ga 14 (.ld (some 31)) [.t 13],ga 4 (.eJ (some 31) (.st 31 [(z4 27),ku,(bC 25),kx,ki,ki,(bC 25),(.s (.bool false)),(.s (.bool false))])) [],gm 3 12,gn (.bd (some 31)) [.t 4,.t 14]]) (.seq (.af [ga 15 (.ld (some 31)) [.t 4],ga 16 (.call 75) [.t 15],ga 17 (.un .not) [.t 16],gm 18 17,gw 18 false 19 .mv [.t 3],gw 18 false 20 (.bin .num .gtr) [.t 19,kc 0],gw 18 false 21 .mv [.t 20],gw 21 true 22 .mv [.t 0],gw 21 true 23 .mv [.t 3],gw 21 true 24 (.bin .num .sub) [.t 23,kc 1],gw 21 true 25 (.di (some 31)) [.t 22,.t 24],gw 21 true 26 (.fa 31 0) [.t 25],gw 21 true 27 (.qp 27 none false false) [.t 26],gw 21 true 28 (.fa 31 0) [.t 4],gw 21 true 29 (.qp 27 none false false) [.t 28],gw 21 true 30 (.call 98) [.t 27,.t 29],gw 21 true 31 (.bin .num .geq) [.t 30,kc 0],gw 18 false 32 .pick [.t 21,.t 31,kb false],ga 33 .pick [.t 18,kb true,.t 32]]) (.cond (.t 33) (.seq (.af [ga 2 .mv [kb false]]) .ret) .skip)))) (.af [ga 34 (.bin .num .add) [.t 10,kc 1],gm 10 34])))))
def Gg :Go.Vm.C:=(.seq (.af [ga 2 .mv [kb true]]) .ret)
def B84 :Go.Vm.C:=(.seq (.af [ga 2 .mv [kb false]]) (.seq (.seq (.af [gm 5 0,ga 6 .len [.t 5],ga 7 (.bin .num .gtr) [.t 6,kc 4]]) (.cond (.t 7) (.seq (.af [ga 2 .mv [kb false]]) .ret) .skip)) (.seq (.seq (.af [gm 8 0,ga 9 .len [.t 8],ga 10 .mv [kc 0]]) (.block 0 Gf)) Gg)))
abbrev F84 :Go.Vm.Fn:=⟨35,B84,[(.t 2)],true⟩
theorem Uc :bH Tryz.prog ob Tryz.f84 true=some F84:=by kernel_rfl
theorem Ud :B84.fits 35=true:=by kernel_rfl
def B85 :Go.Vm.C:=(.seq (.af [ga 3 (.box (some 27)) [.t 1],ga 4 (.eJ (some 31) (.st 31 [(z4 27),ku,(bC 25),kx,ki,ki,(bC 25),(.s (.bool false)),(.s (.bool false))])) [],ga 5 .mv [kb false]]) (.seq (.af [gm 9 0,ga 10 (.ld (some 27)) [.t 3],ga 11 (.call 96) [.t 9,.t 10],gm 8 11,ga 12 (.ext 0) [.t 8],ga 13 (.ext 1) [.t 8],gm 6 12,gm 7 13]) (.seq (.seq (.af [gm 14 7,ga 15 (.un .not) [.t 14]]) (.cond (.t 15) (.seq (.af [ga 16 (.dF 31 [(z4 27),ku,(bC 25),kx,ki,ki,(bC 25),(.s (.bool false)),(.s (.bool false))] []) [],gn (.bd (some 31)) [.t 4,.t 16],ga 5 .mv [kb false]]) .ret) .skip)) (.seq (.af [gm 17 0,ga 18 .aN [.t 17],ga 19 (.fa 146 0) [.t 18],ga 20 (.ld none) [.t 19],gm 21 6,ga 22 (.di (some 31)) [.t 20,.t 21],ga 23 (.ld (some 31)) [.t 22],ga 24 (.call 82) [.t 23],gn (.bd (some 31)) [.t 4,.t 24],ga 5 .mv [kb true]]) .ret))))
abbrev F85 :Go.Vm.Fn:=⟨25,B85,[(.cell 4 (some 31)),(.t 5)],true⟩
theorem Ue :bH Tryz.prog ob Tryz.f85 true=some F85:=by kernel_rfl
theorem Uf :B85.fits 25=true:=by kernel_rfl
def B86 :Go.Vm.C:=(.seq (.af [ga 2 .mv [kc 0]]) (.seq (.af [gm 3 0,ga 4 .aN [.t 3],ga 5 (.fa 146 0) [.t 4],ga 6 (.ld none) [.t 5],ga 7 .len [.t 6],gm 2 7]) .ret))
abbrev F86 :Go.Vm.Fn:=⟨8,B86,[(.t 2)],true⟩
theorem Ug :bH Tryz.prog ob Tryz.f86 true=some F86:=by kernel_rfl
theorem Uh :B86.fits 8=true:=by kernel_rfl
def B87 :Go.Vm.C:=(.seq (.af [ga 4 .mv [kb false]]) (.seq (.af [gm 5 0,gm 6 1,ga 7 (.call 108) [.t 5,.t 6],ga 8 (.bin .num .geq) [.t 7,kc 0],gm 4 8]) .ret))
abbrev F87 :Go.Vm.Fn:=⟨9,B87,[(.t 4)],true⟩
theorem Ui :bH Tryz.prog ob Tryz.f87 true=some F87:=by kernel_rfl
theorem Uj :B87.fits 9=true:=by kernel_rfl
def B88 :Go.Vm.C:=(.seq (.af [ga 2 (.box (some 31)) [.t 0],ga 3 .mv [kb false]]) (.seq (.bL [gl 0 0 (ga 4 (.fa 31 0) [.t 2]),gl 0 0 (ga 5 (.ld (some 27)) [.t 4]),gl 0 1 (ga 6 (.call 63) [.t 5]),gl 0 1 (ga 7 (.fa 41 1) [.t 1]),gl 0 1 (ga 8 (.ld none) [.t 7]),gl 1 1 (ga 9 (.bin .num .neq) [.t 6,.t 8]),gl 1 1 (gm 3 9)]) .ret))
abbrev F88 :Go.Vm.Fn:=⟨10,B88,[(.t 3)],true⟩
theorem Uk :bH Tryz.prog ob Tryz.f88 true=some F88:=by kernel_rfl
theorem Ul :B88.fits 10=true:=by kernel_rfl
def MW :Go.Vm.C:=(.loop (.seq (.af [ga 17 (.bin .num .lss) [.t 16,.t 15]]) (.seq (.cond (.t 17) .skip (.exit 0)) (.seq (.block 1 (.seq (.af [gm 18 16,gm 8 18]) (.af [gm 19 7,gm 20 8,ga 21 (.di none) [.t 19,.t 20],ga 22 (.ld none) [.t 21],gm 23 2,gm 24 8,ga 25 (.di none) [.t 23,.t 24],ga 26 (.ld none) [.t 25],ga 27 (.bin .num .xor) [.t 22,.t 26],ga 28 (.di none) [.t 19,.t 20],gn (.bd none) [.t 28,.t 27]]))) (.af [ga 29 (.bin .num .add) [.t 16,kc 1],gm 16 29])))))
def MX :Go.Vm.C:=(.seq (.af [gm 30 7,gm 6 30]) .ret)
def B89 :Go.Vm.C:=(.seq (.af [ga 3 (.box (some 25)) [.t 0],ga 6 .mv [(.c (.al true none []))]]) (.seq (.af [ga 9 (.ld (some 25)) [.t 3],gm 10 1,gm 11 2,ga 12 .len [.t 11],ga 13 (.call 109) [.t 9,.t 10,.t 12],gm 7 13]) (.seq (.seq (.af [gm 14 7,ga 15 .len [.t 14],ga 16 .mv [kc 0]]) (.block 0 MW)) MX)))
abbrev F89 :Go.Vm.Fn:=⟨31,B89,[(.t 6)],false⟩
theorem Um :bH Tryz.prog ob Tryz.f89 false=some F89:=by kernel_rfl
theorem Un :B89.fits 31=true:=by kernel_rfl
def B90 :Go.Vm.C:=(.seq (.af [ga 4 (.box (some 25)) [.t 0],ga 8 .mv [(.c (.al true none []))]]) (.seq (.af [ga 10 (.ld (some 25)) [.t 4],ga 11 (.ld (some 25)) [.t 4],ga 12 (.call 59) [.t 10,.t 11],gm 13 1,ga 14 (.call 41) [.t 13],gm 15 2,ga 16 .len [.t 15],ga 17 (.ig .u64) [.t 16],ga 18 (.call 41) [.t 17],gm 19 2,gm 20 3,ga 21 (.ja none [kx,kx,kx,kx] [0,1,2,3]) [.t 14,.t 18,.t 19,.t 20],ga 22 (.call 104) [.t 21],ga 23 (.call 79) [.t 12,.t 22],ga 9 (.eJ (some 25) (bC 25)) [],gn (.bd (some 25)) [.t 9,.t 23]]) (.seq (.af [ga 24 (.qp 25 none false true) [.t 9,kc 8],gm 8 24]) .ret)))
abbrev F90 :Go.Vm.Fn:=⟨25,B90,[(.t 8)],false⟩
theorem Uo :bH Tryz.prog ob Tryz.f90 false=some F90:=by kernel_rfl
theorem Up :B90.fits 25=true:=by kernel_rfl
def Gh :Go.Vm.C:=(.loop (.seq (.seq (.af [gm 5 4,ga 6 (.bin .num .geq) [.t 5,kc 0]]) (.cond (.t 6) .skip (.exit 0))) (.seq (.block 1 (.af [gm 9 3,ga 10 (.bin .num .shl) [.t 9,(.c (.s (.int .u64 8)))],gm 11 0,gm 12 4,ga 13 (.di none) [.t 11,.t 12],ga 14 (.ld none) [.t 13],ga 15 (.ig .u32) [.t 14],ga 16 (.bin .num .or) [.t 10,.t 15],gm 3 16])) (.af [gm 7 4,ga 8 (.bin .num .sub) [.t 7,kc 1],gm 4 8]))))
def Gi :Go.Vm.C:=(.seq (.af [gm 17 3,gm 2 17]) .ret)
def B92 :Go.Vm.C:=(.seq (.af [ga 2 .mv [(.c (.s (.int .u32 0)))]]) (.seq (.af [ga 3 .mv [(.c (.s (.int .u32 0)))]]) (.seq (.seq (.af [ga 4 .mv [kc 3]]) (.block 0 Gh)) Gi)))
abbrev F92 :Go.Vm.Fn:=⟨18,B92,[(.t 2)],true⟩
theorem MY :bH Tryz.prog ob Tryz.f92 true=some F92:=by kernel_rfl
theorem Uq :B92.fits 18=true:=by kernel_rfl
def B93 :Go.Vm.C:=(.seq (.af [gm 2 0,ga 3 .aN [.t 2],ga 4 (.jj 155) [.t 3,kc 0],ga 5 (.ld none) [.t 4],gm 6 0,ga 7 .aN [.t 6],ga 8 (.jj 155) [.t 7,kc 1],ga 9 (.ld none) [.t 8],ga 10 (.bin .num .add) [.t 5,.t 9],ga 11 .aN [.t 2],ga 12 (.jj 155) [.t 11,kc 0],gn (.bd none) [.t 12,.t 10]]) (.seq (.af [gm 13 0,gm 14 0,ga 15 .aN [.t 14],ga 16 (.jj 155) [.t 15,kc 3],ga 17 (.ld none) [.t 16],gm 18 0,ga 19 .aN [.t 18],ga 20 (.jj 155) [.t 19,kc 0],ga 21 (.ld none) [.t 20],ga 22 (.bin .num .xor) [.t 17,.t 21],ga 23 (.call 110) [.t 22,kc 16],ga 24 .aN [.t 13],ga 25 (.jj 155) [.t 24,kc 3],gn (.bd none) [.t 25,.t 23]]) (.seq (.af [gm 26 0,ga 27 .aN [.t 26],ga 28 (.jj 155) [.t 27,kc 2],ga 29 (.ld none) [.t 28],gm 30 0,ga 31 .aN [.t 30],ga 32 (.jj 155) [.t 31,kc 3],ga 33 (.ld none) [.t 32],ga 34 (.bin .num .add) [.t 29,.t 33],ga 35 .aN [.t 26],ga 36 (.jj 155) [.t 35,kc 2],gn (.bd none) [.t 36,.t 34]]) (.seq (.af [gm 37 0,gm 38 0,ga 39 .aN [.t 38],ga 40 (.jj 155) [.t 39,kc 1],ga 41 (.ld none) [.t 40],gm 42 0,ga 43 .aN [.t 42],ga 44 (.jj 155) [.t 43,kc 2],ga 45 (.ld none) [.t 44],ga 46 (.bin .num .xor) [.t 41,.t 45],ga 47 (.call 110) [.t 46,kc 12],ga 48 .aN [.t 37],ga 49 (.jj 155) [.t 48,kc 1],gn (.bd none) [.t 49,.t 47]]) (.seq (.af [gm 50 0,ga 51 .aN [.t 50],ga 52 (.jj 155) [.t 51,kc 0],ga 53 (.ld none) [.t 52],gm 54 0,ga 55 .aN [.t 54],ga 56 (.jj 155) [.t 55,kc 1],ga 57 (.ld none) [.t 56],ga 58 (.bin .num .add) [.t 53,.t 57],ga 59 .aN [.t 50],ga 60 (.jj 155) [.t 59,kc 0],gn (.bd none) [.t 60,.t 58]]) (.seq (.af [gm 61 0,gm 62 0,ga 63 .aN [.t 62],ga 64 (.jj 155) [.t 63,kc 3],ga 65 (.ld none) [.t 64],gm 66 0,ga 67 .aN [.t 66],ga 68 (.jj 155) [.t 67,kc 0],ga 69 (.ld none) [.t 68],ga 70 (.bin .num .xor) [.t 65,.t 69],ga 71 (.call 110) [.t 70,kc 8],ga 72 .aN [.t 61],ga 73 (.jj 155) [.t 72,kc 3],gn (.bd none) [.t 73,.t 71]]) (.seq (.af [gm 74 0,ga 75 .aN [.t 74],ga 76 (.jj 155) [.t 75,kc 2],ga 77 (.ld none) [.t 76],gm 78 0,ga 79 .aN [.t 78],ga 80 (.jj 155) [.t 79,kc 3],ga 81 (.ld none) [.t 80],ga 82 (.bin .num .add) [.t 77,.t 81],ga 83 .aN [.t 74],ga 84 (.jj 155) [.t 83,kc 2],gn (.bd none) [.t 84,.t 82]]) (.af [gm 85 0,gm 86 0,ga 87 .aN [.t 86],ga 88 (.jj 155) [.t 87,kc 1],ga 89 (.ld none) [.t 88],gm 90 0,ga 91 .aN [.t 90],ga 92 (.jj 155) [.t 91,kc 2],ga 93 (.ld none) [.t 92],ga 94 (.bin .num .xor) [.t 89,.t 93],ga 95 (.call 110) [.t 94,kc 7],ga 96 .aN [.t 85],ga 97 (.jj 155) [.t 96,kc 1],gn (.bd none) [.t 97,.t 95]]))))))))
abbrev F93 :Go.Vm.Fn:=⟨98,B93,[],true⟩
theorem MZ :bH Tryz.prog ob Tryz.f93 true=some F93:=by kernel_rfl
theorem Ur :B93.fits 98=true:=by kernel_rfl
def B94 :Go.Vm.C:=(.seq (.af [ga 2 .mv [kb false]]) (.seq (.af [gm 3 0,ga 4 (.bin .num .geq) [.t 3,kc 0],gm 5 4,gw 5 true 6 .mv [.t 0],gw 5 true 7 (.bin .num .lss) [.t 6,kc 10],ga 8 .pick [.t 5,.t 7,kb false],gm 2 8]) .ret))
abbrev F94 :Go.Vm.Fn:=⟨9,B94,[(.t 2)],true⟩
theorem Us :bH Tryz.prog ob Tryz.f94 true=some F94:=by kernel_rfl
theorem Ut :B94.fits 9=true:=by kernel_rfl
def B95 :Go.Vm.C:=(.seq (.af [ga 2 (.eJ (some 130) (.st 130 [(.s (.bool false)),kx])) []]) (.seq (.af [gm 3 0,ga 4 (.call 91) [.t 3],ga 5 (.dF 130 [(.s (.bool false)),kx] [0,1]) [kb true,.t 4],gn (.bd (some 130)) [.t 2,.t 5]]) .ret))
abbrev F95 :Go.Vm.Fn:=⟨6,B95,[(.cell 2 (some 130))],false⟩
theorem Uu :bH Tryz.prog ob Tryz.f95 false=some F95:=by kernel_rfl
theorem Uv :B95.fits 6=true:=by kernel_rfl
def B96 :Go.Vm.C:=(.seq (.af [ga 3 (.box (some 27)) [.t 1],ga 4 .mv [kc 0],ga 5 .mv [kb false]]) (.seq (.af [gm 6 0,ga 7 .aN [.t 6],ga 8 (.fa 146 0) [.t 7],ga 9 (.ld none) [.t 8],ga 10 (.ld (some 27)) [.t 3],ga 11 (.call 111) [.t 9,.t 10,(.c (.fn 112 []))],ga 12 (.ext 0) [.t 11],ga 13 (.ext 1) [.t 11],gm 4 12,gm 5 13]) .ret))
abbrev F96 :Go.Vm.Fn:=⟨14,B96,[(.t 4),(.t 5)],true⟩
theorem Uw :bH Tryz.prog ob Tryz.f96 true=some F96:=by kernel_rfl
theorem Ux :B96.fits 14=true:=by kernel_rfl
def B99 :Go.Vm.C:=(.seq (.af [ga 3 (.box (some 25)) [.t 0],ga 5 (.box (some 53)) [.t 2],ga 6 .mv [(.c (.al true none []))],ga 7 (.eJ (some 25) (bC 25)) [],ga 8 .mv [kc 0]]) (.seq (.seq (.af [ga 13 (.fa 53 2) [.t 5],ga 14 (.ld none) [.t 13],ga 15 (.bin .num .eql) [.t 14,(.c ku)]]) (.cond (.t 15) (.seq (.af [ga 16 (.jf 25 [(.s (.int .u8 0)),(.s (.int .u8 0)),(.s (.int .u8 0)),(.s (.int .u8 0)),(.s (.int .u8 0)),(.s (.int .u8 0)),(.s (.int .u8 0)),(.s (.int .u8 0)),(.s (.int .u8 0)),(.s (.int .u8 0)),(.s (.int .u8 0)),(.s (.int .u8 0)),(.s (.int .u8 0)),(.s (.int .u8 0)),(.s (.int .u8 0)),(.s (.int .u8 0))] []) [],ga 6 .mv [(.c (.al true none []))],gn (.bd (some 25)) [.t 7,.t 16],ga 8 .mv [kc 0]]) .ret) .skip)) (.seq (.af [gm 18 1,ga 19 (.fa 53 4) [.t 5],ga 20 (.ld none) [.t 19],ga 21 (.call 100) [.t 18,.t 20],gm 17 21,ga 22 (.ext 0) [.t 17],ga 23 (.ext 1) [.t 17],gm 9 22,gm 10 23]) (.seq (.seq (.af [gm 24 10,ga 25 (.un .not) [.t 24]]) (.cond (.t 25) (.seq (.af [ga 26 (.jf 25 [(.s (.int .u8 0)),(.s (.int .u8 0)),(.s (.int .u8 0)),(.s (.int .u8 0)),(.s (.int .u8 0)),(.s (.int .u8 0)),(.s (.int .u8 0)),(.s (.int .u8 0)),(.s (.int .u8 0)),(.s (.int .u8 0)),(.s (.int .u8 0)),(.s (.int .u8 0)),(.s (.int .u8 0)),(.s (.int .u8 0)),(.s (.int .u8 0)),(.s (.int .u8 0))] []) [],ga 6 .mv [(.c (.al true none []))],gn (.bd (some 25)) [.t 7,.t 26],ga 8 .mv [kc 30]]) .ret) .skip)) (.seq (.af [ga 28 (.ld (some 25)) [.t 3],ga 29 (.fa 53 2) [.t 5],ga 30 (.ld none) [.t 29],ga 31 (.ja none [(.s (.int .u8 0)),(.s (.int .u8 0)),(.s (.int .u8 0)),(.s (.int .u8 0)),(.s (.int .u8 0))] [0,1,2,3,4]) [(.c (.s (.int .u8 105))),(.c (.s (.int .u8 109))),(.c (.s (.int .u8 97))),(.c (.s (.int .u8 103))),(.c (.s (.int .u8 101)))],ga 32 .qX [.t 31],gm 33 9,ga 34 (.call 116) [.t 28,.t 30,.t 32,.t 33],gm 27 34,ga 35 (.ext 0) [.t 27],ga 36 (.ext 1) [.t 27],gm 11 35,gm 12 36]) (.seq (.af [gm 37 11,gm 38 9,ga 39 (.call 71) [.t 38],gm 40 12,gm 6 37,gn (.bd (some 25)) [.t 7,.t 39],gm 8 40]) .ret))))))
abbrev F99 :Go.Vm.Fn:=⟨41,B99,[(.t 6),(.cell 7 (some 25)),(.t 8)],true⟩
theorem Uy :bH Tryz.prog ob Tryz.f99 true=some F99:=by kernel_rfl
theorem Uz :B99.fits 41=true:=by kernel_rfl
def CM :Go.Vm.C:=(.seq (.af [ga 4 .mv [(.c (.al true none []))],ga 5 .mv [kb false]]) (.seq (.seq (.af [gm 6 1,ga 7 (.call 94) [.t 6],ga 8 (.un .not) [.t 7],gm 9 8,gw 9 false 10 .mv [.t 0],gw 9 false 11 .mv [.t 1],gw 9 false 12 .aN [.t 10],gw 9 false 13 (.fa 133 0) [.t 12],gw 9 false 14 (.jj 132) [.t 13,.t 11],gw 9 false 15 (.fa 130 0) [.t 14],gw 9 false 16 (.ld none) [.t 15],gw 9 false 17 (.un .not) [.t 16],ga 18 .pick [.t 9,kb true,.t 17]]) (.cond (.t 18) (.seq (.af [ga 4 .mv [(.c (.al true none []))],ga 5 .mv [kb false]]) .ret) .skip)) (.seq (.af [gm 19 0,gm 20 1,ga 21 .aN [.t 19],ga 22 (.fa 133 0) [.t 21],ga 23 (.jj 132) [.t 22,.t 20],ga 24 (.fa 130 1) [.t 23],ga 25 (.ld none) [.t 24],ga 26 (.call 91) [.t 25],gm 4 26,ga 5 .mv [kb true]]) .ret)))
abbrev UA :Go.Vm.Fn:=⟨27,CM,[(.t 4),(.t 5)],true⟩
theorem NB :bH Tryz.prog ob Tryz.f100 true=some UA:=by kernel_rfl
theorem NC :CM.fits 27=true:=by kernel_rfl
def J9 :Go.Vm.C:=(.seq (.af [ga 4 (.box (some 25)) [.t 0],ga 6 (.box (some 25)) [.t 2],ga 8 (.eJ (some 41) (.st 41 [ki,ki,ki,ku,(.st 31 [(z4 27),ku,(bC 25),kx,ki,ki,(bC 25),(.s (.bool false)),(.s (.bool false))]),(.al false (some 31) [])])) [],ga 9 .mv [kc 0]]) (.seq (.af [ga 13 (.ld (some 25)) [.t 4],gm 14 1,ga 15 (.qp 25 none false false) [.t 6],gm 16 3,ga 17 (.call 116) [.t 13,.t 14,.t 15,.t 16],gm 12 17,ga 18 (.ext 0) [.t 12],ga 19 (.ext 1) [.t 12],gm 10 18,gm 11 19]) (.seq (.seq (.af [gm 20 11,ga 21 (.bin .num .neq) [.t 20,kc 0]]) (.cond (.t 21) (.seq (.af [ga 22 (.dF 41 [ki,ki,ki,ku,(.st 31 [(z4 27),ku,(bC 25),kx,ki,ki,(bC 25),(.s (.bool false)),(.s (.bool false))]),(.al false (some 31) [])] []) [],gm 23 11,gn (.bd (some 41)) [.t 8,.t 22],gm 9 23]) .ret) .skip)) (.seq (.af [gm 24 10,ga 25 (.call 117) [.t 24],ga 26 (.ext 0) [.t 25],ga 27 (.ext 1) [.t 25],gn (.bd (some 41)) [.t 8,.t 26],gm 9 27]) .ret))))
abbrev UB :Go.Vm.Fn:=⟨28,J9,[(.cell 8 (some 41)),(.t 9)],true⟩
theorem ND :bH Tryz.prog ob Tryz.f101 true=some UB:=by kernel_rfl
theorem NF :J9.fits 28=true:=by kernel_rfl
def ze :Go.Vm.C:=(.loop (.seq (.af [ga 26 (.bin .num .lss) [.t 25,kc 16]]) (.seq (.cond (.t 26) .skip (.exit 0)) (.seq (.block 1 (.seq (.af [gm 27 25,gm 9 27]) (.seq (.seq (.af [gm 28 2,ga 29 .len [.t 28],ga 30 (.bin .num .lss) [.t 29,kc 11]]) (.cond (.t 30) (.seq (.af [ga 6 .mv [(.c (.s (.pointer none)))],ga 7 .mv [kb false]]) .ret) .skip)) (.seq (.af [gm 32 2,ga 33 (.jg none true false false) [.t 32,kc 11],gm 34 2,ga 35 (.di none) [.t 34,kc 10],ga 36 (.ld none) [.t 35],ga 37 (.ig .i64) [.t 36],ga 38 (.call 118) [.t 33,.t 37],gm 31 38,ga 39 (.ext 0) [.t 31],ga 40 (.ext 1) [.t 31],ga 41 (.ext 2) [.t 31],gm 10 39,gm 11 40,gm 12 41]) (.seq (.seq (.bL [gl 0 0 (gm 42 12),gl 0 0 (ga 43 (.un .not) [.t 42]),gl 0 0 (gm 44 43),gl 0 1 (gw 44 false 45 .mv [.t 8]),gl 0 1 (gw 44 false 46 .mv [.t 9]),gl 0 1 (gw 44 false 47 .mv [.t 2]),gl 0 1 (gw 44 false 48 (.di none) [.t 47,kc 0]),gl 0 1 (gw 44 false 49 (.ld none) [.t 48]),gl 0 1 (gw 44 false 50 (.ig .i64) [.t 49]),gl 0 0 (gw 44 false 51 .mv [.t 2]),gl 0 0 (gw 44 false 52 (.jg none true false false) [.t 51,kc 1]),gl 0 1 (gw 44 false 53 (.call 119) [.t 52]),gl 0 1 (gw 44 false 54 .mv [.t 2]),gl 0 1 (gw 44 false 55 (.di none) [.t 54,kc 9]),gl 0 1 (gw 44 false 56 (.ld none) [.t 55]),gl 0 1 (gw 44 false 57 (.ig .i64) [.t 56]),gl 0 1 (gw 44 false 58 .mv [.t 10]),gl 1 2 (gw 44 false 59 (.call 50) [.t 45,.t 46,.t 50,.t 53,.t 57,.t 58]),gl 2 2 (gw 44 false 60 (.bin .num .neq) [.t 59,kc 0]),gl 2 2 (ga 61 .pick [.t 44,kb true,.t 60])]) (.cond (.t 61) (.seq (.af [ga 6 .mv [(.c (.s (.pointer none)))],ga 7 .mv [kb false]]) .ret) .skip)) (.af [gm 62 11,gm 2 62])))))) (.af [ga 63 (.bin .num .add) [.t 25,kc 1],gm 25 63])))))
def zf :Go.Vm.C:=(.seq (.af [gm 64 8,gm 6 64,ga 7 .mv [kb true]]) .ret)
def Ka :Go.Vm.C:=(.seq (.af [ga 6 .mv [(.c (.s (.pointer none)))],ga 7 .mv [kb false]]) (.seq (.af [gm 13 0,gm 14 1,ga 15 (.call 44) [.t 13,.t 14],gm 8 15]) (.seq (.seq (.af [gm 16 8,ga 17 (.bin .ptr .eql) [.t 16,(.c (.s (.pointer none)))],gm 18 17,gw 18 false 19 .mv [.t 2],gw 18 false 20 .len [.t 19],gw 18 false 21 (.bin .num .lss) [.t 20,kc 2],ga 22 .pick [.t 18,kb true,.t 21]]) (.cond (.t 22) (.seq (.af [ga 6 .mv [(.c (.s (.pointer none)))],ga 7 .mv [kb false]]) .ret) .skip)) (.seq (.af [gm 23 2,ga 24 (.jg none true false false) [.t 23,kc 2],gm 2 24]) (.seq (.seq (.af [ga 25 .mv [kc 0]]) (.block 0 ze)) zf)))))
abbrev UC :Go.Vm.Fn:=⟨65,Ka,[(.t 6),(.t 7)],false⟩
theorem NG :bH Tryz.prog ob Tryz.f102 false=some UC:=by kernel_rfl
theorem NH :Ka.fits 65=true:=by kernel_rfl
def Kb :Go.Vm.C:=(.seq (.af [ga 4 .mv [kb false]]) (.seq (.af [gm 5 0,ga 6 .Fv [.t 5],gm 7 1,ga 8 .Fv [.t 7],ga 9 (.bin .num .eql) [.t 6,.t 8],gm 4 9]) .ret))
abbrev UD :Go.Vm.Fn:=⟨10,Kb,[(.t 4)],true⟩
theorem NI :bH Tryz.prog ob Tryz.f103 true=some UD:=by kernel_rfl
theorem Gj :Kb.fits 10=true:=by kernel_rfl
def Gk :Go.Vm.C:=(.loop (.seq (.af [ga 12 (.bin .num .lss) [.t 11,.t 10]]) (.seq (.cond (.t 12) .skip (.exit 0)) (.seq (.block 1 (.seq (.af [ga 13 (.di none) [.t 9,.t 11],ga 14 (.ld none) [.t 13],gm 5 14]) (.seq (.af [gm 15 3,gm 16 5,ga 17 .len [.t 16],ga 18 (.bin .num .add) [.t 15,.t 17],gm 3 18]) (.seq (.af [gm 19 3,ga 20 (.bin .num .lss) [.t 19,kc 0]]) (.cond (.t 20) (.af [ga 21 (.mki 9) [(.c (.s (.string ⟨#[108,101,110,32,111,117,116,32,111,102,32,114,97,110,103,101]⟩)))],gn .bad []]) .skip))))) (.af [ga 22 (.bin .num .add) [.t 11,kc 1],gm 11 22])))))
def Gl :Go.Vm.C:=(.loop (.seq (.af [ga 28 (.bin .num .lss) [.t 27,.t 26]]) (.seq (.cond (.t 28) .skip (.exit 2)) (.seq (.block 3 (.seq (.af [ga 29 (.di none) [.t 25,.t 27],ga 30 (.ld none) [.t 29],gm 8 30]) (.af [gm 31 6,gm 32 8,ga 33 (.app none 1) [.t 31,.t 32],gm 6 33]))) (.af [ga 34 (.bin .num .add) [.t 27,kc 1],gm 27 34])))))
def Gm :Go.Vm.C:=(.seq (.af [gm 35 6,gm 2 35]) .ret)
def Gn :Go.Vm.C:=(.seq (.af [gm 23 3,ga 24 (.call 120) [(.c (.al true none [])),.t 23],gm 6 24]) (.seq (.seq (.af [gm 25 0,ga 26 .len [.t 25],ga 27 .mv [kc 0]]) (.block 2 Gl)) Gm))
def NJ :Go.Vm.C:=(.seq (.af [ga 2 .mv [(.c (.al true none []))]]) (.seq (.af [ga 3 .mv [kc 0]]) (.seq (.seq (.af [gm 9 0,ga 10 .len [.t 9],ga 11 .mv [kc 0]]) (.block 0 Gk)) Gn)))
abbrev UE :Go.Vm.Fn:=⟨36,NJ,[(.t 2)],true⟩
theorem NK :bH Tryz.prog ob Tryz.f104 true=some UE:=by kernel_rfl
theorem NL :NJ.fits 36=true:=by kernel_rfl
def zg :Go.Vm.C:=(.loop (.seq (.seq (.af [gm 17 4,ga 18 .len [.t 17],ga 19 (.bin .num .rem) [.t 18,kc 8],ga 20 (.bin .num .neq) [.t 19,kc 0]]) (.cond (.t 20) .skip (.exit 0))) (.block 1 (.af [gm 21 4,ga 22 (.ja none [(.s (.int .u8 0))] [0]) [(.c (.s (.int .u8 0)))],ga 23 (.app none 1) [.t 21,.t 22],gm 4 23]))))
def zh :Go.Vm.C:=(.loop (.seq (.seq (.af [gm 27 6,ga 28 (.bin .num .lss) [.t 27,kc 8]]) (.cond (.t 28) .skip (.exit 2))) (.seq (.block 3 (.seq (.af [gm 31 4,gm 32 5,ga 33 (.ig .u8) [.t 32],ga 34 (.ja none [(.s (.int .u8 0))] [0]) [.t 33],ga 35 (.app none 1) [.t 31,.t 34],gm 4 35]) (.af [gm 36 5,ga 37 (.bin .num .quo) [.t 36,(.c (.s (.int .u64 256)))],gm 5 37]))) (.af [gm 29 6,ga 30 (.bin .num .add) [.t 29,kc 1],gm 6 30]))))
def zi :Go.Vm.C:=(.loop (.seq (.seq (.af [gm 38 7,gm 39 4,ga 40 .len [.t 39],ga 41 (.bin .num .lss) [.t 38,.t 40]]) (.cond (.t 41) .skip (.exit 4))) (.seq (.block 5 (.seq (.bL [gl 0 1 (gm 44 3),gl 0 1 (gm 45 3),gl 0 1 (ga 46 (.di none) [.t 45,kc 0]),gl 0 1 (ga 47 (.ld none) [.t 46]),gl 0 0 (gm 48 4),gl 0 0 (gm 49 7),gl 0 0 (gm 50 7),gl 0 0 (ga 51 (.bin .num .add) [.t 50,kc 4]),gl 0 0 (ga 52 (.jg none true true false) [.t 48,.t 49,.t 51]),gl 0 1 (ga 53 (.call 121) [.t 52]),gl 1 1 (ga 54 (.bin .num .xor) [.t 47,.t 53]),gl 1 1 (ga 55 (.di none) [.t 44,kc 0]),gl 1 2 (gn (.bd none) [.t 55,.t 54])]) (.seq (.bL [gl 0 1 (gm 56 3),gl 0 1 (gm 57 3),gl 0 1 (ga 58 (.di none) [.t 57,kc 3]),gl 0 1 (ga 59 (.ld none) [.t 58]),gl 0 0 (gm 60 4),gl 0 0 (gm 61 7),gl 0 0 (ga 62 (.bin .num .add) [.t 61,kc 4]),gl 0 0 (gm 63 7),gl 0 0 (ga 64 (.bin .num .add) [.t 63,kc 8]),gl 0 0 (ga 65 (.jg none true true false) [.t 60,.t 62,.t 64]),gl 0 1 (ga 66 (.call 121) [.t 65]),gl 1 1 (ga 67 (.bin .num .xor) [.t 59,.t 66]),gl 1 1 (ga 68 (.di none) [.t 56,kc 3]),gl 1 2 (gn (.bd none) [.t 68,.t 67])]) (.seq (.af [gm 69 3,ga 70 (.call 122) [.t 69]]) (.seq (.af [gm 71 3,ga 72 (.call 122) [.t 71]]) (.af [gm 73 3,ga 74 (.call 122) [.t 73]])))))) (.af [gm 42 7,ga 43 (.bin .num .add) [.t 42,kc 8],gm 7 43]))))
def zj :Go.Vm.C:=(.loop (.seq (.seq (.af [gm 75 8,ga 76 (.bin .num .lss) [.t 75,kc 8]]) (.cond (.t 76) .skip (.exit 6))) (.seq (.block 7 (.af [gm 79 3,ga 80 (.call 122) [.t 79]])) (.af [gm 77 8,ga 78 (.bin .num .add) [.t 77,kc 1],gm 8 78]))))
def zk :Go.Vm.C:=(.loop (.seq (.seq (.af [gm 81 10,ga 82 (.bin .num .lss) [.t 81,kc 16]]) (.cond (.t 82) .skip (.exit 8))) (.seq (.block 9 (.seq (.af [gm 85 10,gm 86 3,gm 87 10,ga 88 (.bin .num .quo) [.t 87,kc 4],ga 89 (.di none) [.t 86,.t 88],ga 90 (.ld none) [.t 89],ga 91 (.ig .u8) [.t 90],ga 92 (.jj 25) [.t 9,.t 85],gn (.bd none) [.t 92,.t 91]]) (.af [gm 93 3,gm 94 10,ga 95 (.bin .num .quo) [.t 94,kc 4],gm 96 3,gm 97 10,ga 98 (.bin .num .quo) [.t 97,kc 4],ga 99 (.di none) [.t 96,.t 98],ga 100 (.ld none) [.t 99],ga 101 (.bin .num .quo) [.t 100,(.c (.s (.int .u32 256)))],ga 102 (.di none) [.t 93,.t 95],gn (.bd none) [.t 102,.t 101]]))) (.af [gm 83 10,ga 84 (.bin .num .add) [.t 83,kc 1],gm 10 84]))))
def zl :Go.Vm.C:=(.seq (.af [ga 103 (.ld (some 25)) [.t 9],gn (.bd (some 25)) [.t 2,.t 103]]) .ret)
def zm :Go.Vm.C:=(.seq (.af [ga 9 (.eJ (some 25) (bC 25)) []]) (.seq (.seq (.af [ga 10 .mv [kc 0]]) (.block 8 zk)) zl))
def zn :Go.Vm.C:=(.seq (.seq (.af [ga 8 .mv [kc 0]]) (.block 6 zj)) zm)
def zo :Go.Vm.C:=(.seq (.seq (.af [ga 7 .mv [kc 0]]) (.block 4 zi)) zn)
def zp :Go.Vm.C:=(.seq (.af [gm 24 0,ga 25 .len [.t 24],ga 26 (.ig .u64) [.t 25],gm 5 26]) (.seq (.seq (.af [ga 6 .mv [kc 0]]) (.block 2 zh)) zo))
def Kc :Go.Vm.C:=(.seq (.af [ga 2 (.eJ (some 25) (bC 25)) []]) (.seq (.af [ga 11 (.ja none [(.s (.int .u32 0)),(.s (.int .u32 0)),(.s (.int .u32 0)),(.s (.int .u32 0))] [0,1,2,3]) [(.c (.s (.int .u32 1668047222))),(.c (.s (.int .u32 1768383858))),(.c (.s (.int .u32 1801807216))),(.c (.s (.int .u32 1935763045)))],gm 3 11]) (.seq (.af [ga 12 (.ja none [] []) [],gm 13 0,ga 14 (.app none 1) [.t 12,.t 13],ga 15 (.ja none [(.s (.int .u8 0))] [0]) [(.c (.s (.int .u8 128)))],ga 16 (.app none 1) [.t 14,.t 15],gm 4 16]) (.seq (.block 0 zg) zp))))
abbrev UF :Go.Vm.Fn:=⟨104,Kc,[(.cell 2 (some 25))],true⟩
theorem NM :bH Tryz.prog ob Tryz.f105 true=some UF:=by kernel_rfl
theorem NN :Kc.fits 104=true:=by kernel_rfl
def NO :Go.Vm.C:=(.seq (.af [ga 2 (.box (some 31)) [.t 0],ga 3 .mv [kb false]]) (.seq (.bL [gl 0 0 (ga 4 (.fa 31 0) [.t 2]),gl 0 0 (ga 5 (.ld (some 27)) [.t 4]),gl 0 1 (ga 6 (.call 63) [.t 5]),gl 0 1 (ga 7 (.ld none) [.t 1]),gl 1 1 (ga 8 (.bin .num .neq) [.t 6,.t 7]),gl 1 1 (gm 3 8)]) .ret))
abbrev UG :Go.Vm.Fn:=⟨9,NO,[(.t 3)],true⟩
theorem NP :bH Tryz.prog ob Tryz.f106 true=some UG:=by kernel_rfl
theorem NQ :NO.fits 9=true:=by kernel_rfl
def Kd :Go.Vm.C:=(.seq (.af [ga 2 (.box (some 31)) [.t 0],ga 3 (.box (some 31)) [.t 1],ga 4 .mv [kb false]]) (.seq (.af [ga 5 (.fa 31 0) [.t 2],ga 6 (.ld (some 27)) [.t 5],ga 7 (.fa 31 0) [.t 3],ga 8 (.ld (some 27)) [.t 7],ga 9 (.zd 27 .u8 false) [.t 6,.t 8],gm 10 9,gw 10 true 11 (.fa 31 1) [.t 2],gw 10 true 12 (.ld none) [.t 11],gw 10 true 13 (.fa 31 1) [.t 3],gw 10 true 14 (.ld none) [.t 13],gw 10 true 15 (.bin .num .eql) [.t 12,.t 14],ga 16 .pick [.t 10,.t 15,kb false],gm 17 16,gw 17 true 18 (.fa 31 2) [.t 2],gw 17 true 19 (.ld (some 25)) [.t 18],gw 17 true 20 (.fa 31 2) [.t 3],gw 17 true 21 (.ld (some 25)) [.t 20],gw 17 true 22 (.zd 25 .u8 false) [.t 19,.t 21],ga 23 .pick [.t 17,.t 22,kb false],gm 24 23,gw 24 true 25 (.fa 31 3) [.t 2],gw 24 true 26 (.ld none) [.t 25],gw 24 true 27 (.fa 31 3) [.t 3],gw 24 true 28 (.ld none) [.t 27],gw 24 true 29 (.call 103) [.t 26,.t 28],ga 30 .pick [.t 24,.t 29,kb false],gm 31 30,gw 31 true 32 (.fa 31 4) [.t 2],gw 31 true 33 (.ld none) [.t 32],gw 31 true 34 (.fa 31 4) [.t 3],gw 31 true 35 (.ld none) [.t 34],gw 31 true 36 (.bin .num .eql) [.t 33,.t 35],ga 37 .pick [.t 31,.t 36,kb false],gm 38 37,gw 38 true 39 (.fa 31 5) [.t 2],gw 38 true 40 (.ld none) [.t 39],gw 38 true 41 (.fa 31 5) [.t 3],gw 38 true 42 (.ld none) [.t 41],gw 38 true 43 (.bin .num .eql) [.t 40,.t 42],ga 44 .pick [.t 38,.t 43,kb false],gm 45 44,gw 45 true 46 (.fa 31 6) [.t 2],gw 45 true 47 (.ld (some 25)) [.t 46],gw 45 true 48 (.fa 31 6) [.t 3],gw 45 true 49 (.ld (some 25)) [.t 48],gw 45 true 50 (.zd 25 .u8 false) [.t 47,.t 49],ga 51 .pick [.t 45,.t 50,kb false],gm 52 51,gw 52 true 53 (.fa 31 7) [.t 2],gw 52 true 54 (.ld none) [.t 53],gw 52 true 55 (.fa 31 7) [.t 3],gw 52 true 56 (.ld none) [.t 55],gw 52 true 57 (.bin .tru .eql) [.t 54,.t 56],ga 58 .pick [.t 52,.t 57,kb false],gm 59 58,gw 59 true 60 (.fa 31 8) [.t 2],gw 59 true 61 (.ld none) [.t 60],gw 59 true 62 (.fa 31 8) [.t 3],gw 59 true 63 (.ld none) [.t 62],gw 59 true 64 (.bin .tru .eql) [.t 61,.t 63],ga 65 .pick [.t 59,.t 64,kb false],gm 4 65]) .ret))
abbrev UH :Go.Vm.Fn:=⟨66,Kd,[(.t 4)],true⟩
theorem NR :bH Tryz.prog ob Tryz.f107 true=some UH:=by kernel_rfl
theorem NS :Kd.fits 66=true:=by kernel_rfl
def Gp :Go.Vm.C:=(.loop (.seq (.af [ga 9 (.bin .num .lss) [.t 8,.t 7]]) (.seq (.cond (.t 9) .skip (.exit 0)) (.seq (.block 1 (.seq (.af [gm 10 8,gm 5 10]) (.seq (.af [gm 11 1,gm 12 0,gm 13 5,ga 14 (.di (some 31)) [.t 12,.t 13],ga 15 (.ld (some 31)) [.t 14],ga 16 .lX [.t 11,.t 15]]) (.cond (.t 16) (.seq (.af [gm 17 5,gm 4 17]) .ret) .skip)))) (.af [ga 18 (.bin .num .add) [.t 8,kc 1],gm 8 18])))))
def Gq :Go.Vm.C:=(.seq (.af [ga 4 .mv [kc (-1)]]) .ret)
def NT :Go.Vm.C:=(.seq (.af [ga 4 .mv [kc 0]]) (.seq (.seq (.af [gm 6 0,ga 7 .len [.t 6],ga 8 .mv [kc 0]]) (.block 0 Gp)) Gq))
abbrev UI :Go.Vm.Fn:=⟨19,NT,[(.t 4)],true⟩
theorem NU :bH Tryz.prog ob Tryz.f108 true=some UI:=by kernel_rfl
theorem NV :NT.fits 19=true:=by kernel_rfl
def zq :Go.Vm.C:=(.loop (.seq (.seq (.af [gm 13 7,ga 14 .len [.t 13],gm 15 2,ga 16 (.bin .num .lss) [.t 14,.t 15]]) (.cond (.t 16) .skip (.exit 0))) (.seq (.block 1 (.seq (.bL [gl 0 3 (ga 19 (.ld (some 25)) [.t 3]),gl 0 0 (gm 20 1),gl 0 1 (ga 21 (.call 41) [.t 20]),gl 0 1 (gm 22 8),gl 1 2 (ga 23 (.call 41) [.t 22]),gl 2 3 (ga 24 (.app none 1) [.t 21,.t 23]),gl 3 3 (ga 25 (.ie 79) [.t 19,.t 24]),gl 0 3 (gn .nop []),gl 3 3 (ga 9 (.fzp (some 25)) [.t 25])]) (.af [gm 26 7,ga 27 (.qp 25 none false false) [.t 9],ga 28 (.app none 1) [.t 26,.t 27],gm 7 28]))) (.af [gm 17 8,ga 18 (.bin .num .add) [.t 17,(.c (.s (.int .u64 1)))],gm 8 18]))))
def zr :Go.Vm.C:=(.seq (.af [gm 29 7,gm 30 2,ga 31 (.jg none false true false) [.t 29,.t 30],ga 32 (.call 91) [.t 31],gm 6 32]) .ret)
def Ke :Go.Vm.C:=(.seq (.af [ga 3 (.box (some 25)) [.t 0],ga 6 .mv [(.c (.al true none []))]]) (.seq (.af [gm 10 2,ga 11 .min [.t 10,kc 8192],ga 12 .max [kc 0,.t 11],gm 2 12]) (.seq (.af [ga 7 .mv [(.c (.al true none []))]]) (.seq (.seq (.af [ga 8 .mv [(.c ku)]]) (.block 0 zq)) zr))))
abbrev UJ :Go.Vm.Fn:=⟨33,Ke,[(.t 6)],false⟩
theorem NW :bH Tryz.prog ob Tryz.f109 false=some UJ:=by kernel_rfl
theorem NX :Ke.fits 33=true:=by kernel_rfl
def Kf :Go.Vm.C:=(.seq (.af [ga 4 .mv [(.c (.s (.int .u32 0)))]]) (.seq (.af [gm 6 1,ga 7 (.ig .u64) [.t 6],ga 8 (.bin .num .and) [.t 7,(.c (.s (.int .u64 31)))],gm 5 8]) (.seq (.af [gm 9 0,gm 10 5,ga 11 (.bin .num .shl) [.t 9,.t 10],gm 12 0,gm 13 5,ga 14 (.bin .num .sub) [(.c (.s (.int .u64 32))),.t 13],ga 15 (.bin .num .shr) [.t 12,.t 14],ga 16 (.bin .num .or) [.t 11,.t 15],gm 4 16]) .ret)))
abbrev NY :Go.Vm.Fn:=⟨17,Kf,[(.t 4)],true⟩
theorem Gs :bH Tryz.prog ob Tryz.f110 true=some NY:=by kernel_rfl
theorem NZ :Kf.fits 17=true:=by kernel_rfl
def zt :Go.Vm.C:=(.loop (.seq (.seq (.af [gm 15 9,gm 16 10,ga 17 (.bin .num .lss) [.t 15,.t 16]]) (.cond (.t 17) .skip (.exit 0))) (.block 1 (.seq (.af [gm 18 9,gm 19 10,ga 20 (.bin .num .add) [.t 18,.t 19],ga 21 (.ig .u64) [.t 20],ga 22 (.bin .num .shr) [.t 21,(.c (.s (.int .u64 1)))],ga 23 (.ig .i64) [.t 22],gm 11 23]) (.seq (.af [gm 24 2,gm 25 0,gm 26 11,ga 27 (.di (some 31)) [.t 25,.t 26],ga 28 (.ld (some 31)) [.t 27],ga 29 (.ld (some 27)) [.t 4],ga 30 .lX [.t 24,.t 28,.t 29],ga 31 (.bin .num .lss) [.t 30,kc 0]]) (.cond (.t 31) (.af [gm 32 11,ga 33 (.bin .num .add) [.t 32,kc 1],gm 9 33]) (.af [gm 34 11,gm 10 34])))))))
def zu :Go.Vm.C:=(.seq (.af [gm 35 9,gm 36 9,gm 37 8,ga 38 (.bin .num .lss) [.t 36,.t 37],gm 39 38,gw 39 true 40 .mv [.t 2],gw 39 true 41 .mv [.t 0],gw 39 true 42 .mv [.t 9],gw 39 true 43 (.di (some 31)) [.t 41,.t 42],gw 39 true 44 (.ld (some 31)) [.t 43],gw 39 true 45 (.ld (some 27)) [.t 4],gw 39 true 46 .lX [.t 40,.t 44,.t 45],gw 39 true 47 (.bin .num .eql) [.t 46,kc 0],ga 48 .pick [.t 39,.t 47,kb false],gm 6 35,gm 7 48]) .ret)
def Kg :Go.Vm.C:=(.seq (.af [ga 4 (.box (some 27)) [.t 1],ga 6 .mv [kc 0],ga 7 .mv [kb false]]) (.seq (.af [gm 12 0,ga 13 .len [.t 12],gm 8 13]) (.seq (.af [gm 14 8,ga 9 .mv [kc 0],gm 10 14]) (.seq (.block 0 zt) zu))))
abbrev UK :Go.Vm.Fn:=⟨49,Kg,[(.t 6),(.t 7)],true⟩
theorem N4 :bH Tryz.prog ob Tryz.f111 true=some UK:=by kernel_rfl
theorem N6 :Kg.fits 49=true:=by kernel_rfl
def Kh :Go.Vm.C:=(.seq (.af [ga 2 (.box (some 31)) [.t 0],ga 3 (.box (some 27)) [.t 1],ga 4 .mv [kc 0]]) (.seq (.af [ga 5 (.fa 31 0) [.t 2],ga 6 (.qp 27 none false false) [.t 5],ga 7 (.qp 27 none false false) [.t 3],ga 8 (.call 98) [.t 6,.t 7],gm 4 8]) .ret))
abbrev UL :Go.Vm.Fn:=⟨9,Kh,[(.t 4)],true⟩
theorem N7 :bH Tryz.prog ob Tryz.f112 true=some UL:=by kernel_rfl
theorem N8 :Kh.fits 9=true:=by kernel_rfl
def XS :Go.Vm.C:=(.af [gm 4 0,gm 5 0,ga 6 .len [.t 5],gm 7 1,ga 8 (.bin .num .sub) [.t 6,.t 7],ga 9 (.call 123) [.t 4,.t 8]])
abbrev UM :Go.Vm.Fn:=⟨10,XS,[],true⟩
theorem N9 :bH Tryz.prog ob Tryz.f114 true=some UM:=by kernel_rfl
def zw :Go.Vm.C:=(.seq (.af [ga 4 (.box (some 25)) [.t 0],ga 8 .mv [(.c (.al true none []))],ga 9 .mv [kc 0]]) (.seq (.seq (.af [gm 12 3,ga 13 .len [.t 12],ga 14 (.bin .num .lss) [.t 13,kc 8],gm 15 14,gw 15 false 16 .mv [.t 3],gw 15 false 17 .len [.t 16],gw 15 false 18 (.bin .num .gtr) [.t 17,kc 8192],ga 19 .pick [.t 15,kb true,.t 18],gm 20 19,gw 20 false 21 .mv [.t 2],gw 20 false 22 .len [.t 21],gw 20 false 23 (.bin .num .gtr) [.t 22,kc 8192],ga 24 .pick [.t 20,kb true,.t 23]]) (.cond (.t 24) (.seq (.af [ga 8 .mv [(.c (.al true none []))],ga 9 .mv [kc 30]]) .ret) .skip)) (.seq (.af [gm 25 3,ga 26 .len [.t 25],ga 27 (.bin .num .sub) [.t 26,kc 8],gm 10 27]) (.seq (.af [ga 28 (.ld (some 25)) [.t 4],gm 29 1,gm 30 3,gm 31 10,ga 32 (.jg none false true false) [.t 30,.t 31],ga 33 (.call 89) [.t 28,.t 29,.t 32],gm 11 33]) (.seq (.seq (.bL [gl 0 0 (ga 34 (.ld (some 25)) [.t 4]),gl 0 0 (gm 35 1),gl 0 0 (gm 36 2),gl 0 0 (gm 37 11),gl 0 1 (ga 38 (.call 90) [.t 34,.t 35,.t 36,.t 37]),gl 0 1 (gm 39 3),gl 0 1 (gm 40 10),gl 0 1 (ga 41 (.jg none true false false) [.t 39,.t 40]),gl 1 2 (ga 42 (.call 124) [.t 38,.t 41]),gl 2 2 (ga 43 (.un .not) [.t 42])]) (.cond (.t 43) (.seq (.af [ga 8 .mv [(.c (.al true none []))],ga 9 .mv [kc 30]]) .ret) .skip)) (.seq (.af [gm 44 11,gm 8 44,ga 9 .mv [kc 0]]) .ret))))))
abbrev UN :Go.Vm.Fn:=⟨45,zw,[(.t 8),(.t 9)],true⟩
theorem Oa :bH Tryz.prog ob Tryz.f116 true=some UN:=by kernel_rfl
theorem Ob :zw.fits 45=true:=by kernel_rfl
def Gt :Go.Vm.C:=(.loop (.seq (.af [ga 42 (.bin .num .lss) [.t 41,.t 40]]) (.seq (.cond (.t 42) .skip (.exit 1)) (.seq (.block 2 (.bL [gl 0 2 (ga 43 (.fa 41 5) [.t 5]),gl 0 2 (ga 44 (.ld none) [.t 43]),gl 0 0 (gm 45 4),gl 0 1 (ga 46 (.call 126) [.t 45]),gl 1 2 (ga 47 (.ja (some 31) [(.st 31 [(z4 27),ku,(bC 25),kx,ki,ki,(bC 25),(.s (.bool false)),(.s (.bool false))])] [0]) [.t 46]),gl 2 3 (ga 48 (.app (some 31) 96) [.t 44,.t 47]),gl 3 3 (ga 49 (.fa 41 5) [.t 5]),gl 3 4 (gn (.bd none) [.t 49,.t 48])])) (.af [ga 50 (.bin .num .add) [.t 41,kc 1],gm 41 50])))))
def Oc :Go.Vm.C:=(.seq (.af [ga 2 (.eJ (some 41) (.st 41 [ki,ki,ki,ku,(.st 31 [(z4 27),ku,(bC 25),(.al true none []),ki,ki,(bC 25),(.s (.bool false)),(.s (.bool false))]),(.al true (some 31) [])])) [],ga 3 .mv [kc 0]]) (.seq (.af [gm 6 0,ga 7 (.dF 191 [(.al true none []),(.s (.bool false))] [0]) [.t 6],ga 8 (.box (some 191)) [.t 7],gm 4 8]) (.seq (.af [gm 9 4,ga 10 (.call 125) [.t 9],ga 11 (.dF 41 [ki,ki,ki,ku,(.st 31 [(z4 27),ku,(bC 25),(.al true none []),ki,ki,(bC 25),(.s (.bool false)),(.s (.bool false))]),(.al true (some 31) [])] [0]) [.t 10],ga 5 (.eJ (some 41) (.st 41 [ki,ki,ki,ku,(.st 31 [(z4 27),ku,(bC 25),(.al true none []),ki,ki,(bC 25),(.s (.bool false)),(.s (.bool false))]),(.al true (some 31) [])])) [],gn (.bd (some 41)) [.t 5,.t 11]]) (.seq (.seq (.af [ga 12 (.fa 41 0) [.t 5],ga 13 (.ld none) [.t 12]]) (.block 0 (.seq (.af [ga 15 (.bin .num .eql) [.t 13,kc 1],gm 14 15]) (.cond (.t 14) (.af [gm 16 4,ga 17 (.call 126) [.t 16],ga 18 (.fa 41 4) [.t 5],gn (.bd (some 31)) [.t 18,.t 17]]) (.seq (.af [ga 20 (.bin .num .eql) [.t 13,kc 2],gm 19 20]) (.cond (.t 19) (.seq (.af [gm 21 4,ga 22 (.call 125) [.t 21],gm 23 4,ga 24 (.call 125) [.t 23],ga 25 (.fa 41 1) [.t 5],gn (.bd none) [.t 25,.t 22],ga 26 (.fa 41 2) [.t 5],gn (.bd none) [.t 26,.t 24]]) (.af [gm 27 4,ga 28 (.call 127) [.t 27],ga 29 (.fa 41 3) [.t 5],gn (.bd none) [.t 29,.t 28]])) (.seq (.af [ga 31 (.bin .num .eql) [.t 13,kc 3],gm 30 31]) (.cond (.t 30) (.seq (.af [gm 32 4,ga 33 (.call 125) [.t 32],ga 34 (.fa 41 1) [.t 5],gn (.bd none) [.t 34,.t 33]]) (.seq (.af [gm 35 4,ga 36 (.call 127) [.t 35],ga 37 (.fa 41 3) [.t 5],gn (.bd none) [.t 37,.t 36]]) (.seq (.af [gm 38 4,ga 39 (.call 125) [.t 38],ga 40 .min [.t 39,kc 5],ga 41 .mv [kc 0]]) (.block 1 Gt)))) (.seq (.af [ga 52 (.bin .num .eql) [.t 13,kc 4],gm 51 52]) (.cond (.t 51) (.seq (.af [gm 53 4,ga 54 (.call 125) [.t 53],ga 55 (.fa 41 1) [.t 5],gn (.bd none) [.t 55,.t 54]]) (.af [gm 56 4,ga 57 (.call 127) [.t 56],ga 58 (.fa 41 3) [.t 5],gn (.bd none) [.t 58,.t 57]])) .skip)))))))))) (.seq (.seq (.af [gm 59 4,ga 60 (.call 128) [.t 59],gm 61 60,gw 61 false 62 (.ld (some 41)) [.t 5],gw 61 false 63 (.call 52) [.t 62],gw 61 false 64 (.un .not) [.t 63],ga 65 .pick [.t 61,kb true,.t 64]]) (.cond (.t 65) (.seq (.af [ga 66 (.dF 41 [ki,ki,ki,ku,(.st 31 [(z4 27),ku,(bC 25),(.al true none []),ki,ki,(bC 25),(.s (.bool false)),(.s (.bool false))]),(.al true (some 31) [])] []) [],gn (.bd (some 41)) [.t 2,.t 66],ga 3 .mv [kc 12]]) .ret) .skip)) (.seq (.af [ga 67 (.ld (some 41)) [.t 5],gn (.bd (some 41)) [.t 2,.t 67],ga 3 .mv [kc 0]]) .ret))))))
abbrev UO :Go.Vm.Fn:=⟨68,Oc,[(.cell 2 (some 41)),(.t 3)],true⟩
theorem Od :bH Tryz.prog ob3 Tryz.f117 true=some UO:=by kernel_rfl
theorem Oe :Oc.fits 68=true:=by kernel_rfl
def Gu :Go.Vm.C:=(.loop (.seq (.af [ga 13 (.bin .num .lss) [.t 12,.t 11]]) (.seq (.cond (.t 13) .skip (.exit 0)) (.seq (.block 1 (.seq (.af [gm 15 0,ga 16 (.call 129) [.t 15],gm 14 16,ga 17 (.ext 0) [.t 14],ga 18 (.ext 1) [.t 14],ga 19 (.ext 2) [.t 14],ga 8 (.eJ (some 31) (.st 31 [(z4 27),ku,(bC 25),kx,ki,ki,(bC 25),(.s (.bool false)),(.s (.bool false))])) [],gn (.bd (some 31)) [.t 8,.t 17],gm 9 18,gm 10 19]) (.seq (.seq (.af [gm 20 10,ga 21 (.bin .num .neq) [.t 20,kc 0]]) (.cond (.t 21) (.seq (.af [ga 4 .mv [(.c (.al true (some 31) []))],ga 5 .mv [(.c (.al true none []))],ga 6 .mv [kb false]]) .ret) .skip)) (.seq (.af [gm 22 7,ga 23 (.ld (some 31)) [.t 8],ga 24 (.ja (some 31) [(.st 31 [(z4 27),ku,(bC 25),kx,ki,ki,(bC 25),(.s (.bool false)),(.s (.bool false))])] [0]) [.t 23],ga 25 (.app (some 31) 96) [.t 22,.t 24],gm 7 25]) (.af [gm 26 0,gm 27 9,ga 28 (.jg none true false false) [.t 26,.t 27],gm 0 28]))))) (.af [ga 29 (.bin .num .add) [.t 12,kc 1],gm 12 29])))))
def Gv :Go.Vm.C:=(.seq (.af [gm 30 7,gm 31 0,gm 4 30,gm 5 31,ga 6 .mv [kb true]]) .ret)
def Of :Go.Vm.C:=(.seq (.af [ga 4 .mv [(.c (.al true (some 31) []))],ga 5 .mv [(.c (.al true none []))],ga 6 .mv [kb false]]) (.seq (.af [ga 7 .mv [(.c (.al true (some 31) []))]]) (.seq (.seq (.af [gm 11 1,ga 12 .mv [kc 0]]) (.block 0 Gu)) Gv)))
abbrev UP :Go.Vm.Fn:=⟨32,Of,[(.t 4),(.t 5),(.t 6)],true⟩
theorem Og :bH Tryz.prog ob Tryz.f118 true=some UP:=by kernel_rfl
theorem Oh :Of.fits 32=true:=by kernel_rfl
def Gw :Go.Vm.C:=(.loop (.seq (.af [ga 10 (.bin .num .lss) [.t 9,.t 8]]) (.seq (.cond (.t 10) .skip (.exit 0)) (.seq (.block 1 (.seq (.af [ga 11 (.di none) [.t 7,.t 9],ga 12 (.ld none) [.t 11],gm 5 12]) (.af [gm 13 3,ga 14 (.bin .num .shl) [.t 13,(.c (.s (.int .u64 8)))],gm 15 5,ga 16 (.ig .u64) [.t 15],ga 17 (.bin .num .or) [.t 14,.t 16],gm 3 17]))) (.af [ga 18 (.bin .num .add) [.t 9,kc 1],gm 9 18])))))
def Gx :Go.Vm.C:=(.seq (.af [gm 19 3,gm 2 19]) .ret)
def Oi :Go.Vm.C:=(.seq (.af [ga 2 .mv [(.c ku)]]) (.seq (.af [ga 3 .mv [(.c ku)]]) (.seq (.seq (.af [gm 6 0,ga 7 (.jg none false true false) [.t 6,kc 8],ga 8 .len [.t 7],ga 9 .mv [kc 0]]) (.block 0 Gw)) Gx)))
abbrev UQ :Go.Vm.Fn:=⟨20,Oi,[(.t 2)],true⟩
theorem Oj :bH Tryz.prog ob Tryz.f119 true=some UQ:=by kernel_rfl
theorem Ok :Oi.fits 20=true:=by kernel_rfl
def Ki :Go.Vm.C:=(.seq (.af [ga 4 .mv [(.c (.al true none []))]]) (.seq (.seq (.af [gm 5 1,ga 6 (.bin .num .lss) [.t 5,kc 0]]) (.cond (.t 6) (.af [ga 7 (.mki 9) [(.c (.s (.string ⟨#[99,97,110,110,111,116,32,98,101,32,110,101,103,97,116,105,118,101]⟩)))],gn .bad []]) .skip)) (.seq (.seq (.af [gm 8 1,gm 9 0,ga 10 .cap [.t 9],gm 11 0,ga 12 .len [.t 11],ga 13 (.bin .num .sub) [.t 10,.t 12],ga 14 (.bin .num .sub) [.t 8,.t 13],gm 1 14]) (.seq (.af [gm 15 1,ga 16 (.bin .num .gtr) [.t 15,kc 0]]) (.cond (.t 16) (.af [gm 17 0,gm 18 0,ga 19 .cap [.t 18],ga 20 (.jg none false true false) [.t 17,.t 19],gm 21 1,ga 22 (.apz none 1 (.s (.int .u8 0))) [.t 20,.t 21],gm 23 0,ga 24 .len [.t 23],ga 25 (.jg none false true false) [.t 22,.t 24],gm 0 25]) .skip))) (.seq (.af [gm 26 0,gm 4 26]) .ret))))
abbrev UR :Go.Vm.Fn:=⟨27,Ki,[(.t 4)],false⟩
theorem Ol :bH Tryz.prog ob Tryz.f120 false=some UR:=by kernel_rfl
theorem Om :Ki.fits 27=true:=by kernel_rfl
def zx :Go.Vm.C:=(.loop (.seq (.seq (.af [gm 5 4,ga 6 (.bin .num .geq) [.t 5,kc 0]]) (.cond (.t 6) .skip (.exit 0))) (.seq (.block 1 (.af [gm 9 3,ga 10 (.bin .num .mul) [.t 9,(.c (.s (.int .u32 256)))],gm 11 0,gm 12 4,ga 13 (.di none) [.t 11,.t 12],ga 14 (.ld none) [.t 13],ga 15 (.ig .u32) [.t 14],ga 16 (.bin .num .add) [.t 10,.t 15],gm 3 16])) (.af [gm 7 4,ga 8 (.bin .num .sub) [.t 7,kc 1],gm 4 8]))))
def zy :Go.Vm.C:=(.seq (.af [gm 17 3,gm 2 17]) .ret)
def Kj :Go.Vm.C:=(.seq (.af [ga 2 .mv [(.c (.s (.int .u32 0)))]]) (.seq (.af [ga 3 .mv [(.c (.s (.int .u32 0)))]]) (.seq (.seq (.af [ga 4 .mv [kc 3]]) (.block 0 zx)) zy)))
abbrev US :Go.Vm.Fn:=⟨18,Kj,[(.t 2)],true⟩
theorem On :bH Tryz.prog ob Tryz.f121 true=some US:=by kernel_rfl
theorem Oo :Kj.fits 18=true:=by kernel_rfl
def Kk :Go.Vm.C:=(.seq (.af [gm 2 0,gm 3 0,ga 4 (.di none) [.t 3,kc 0],ga 5 (.ld none) [.t 4],gm 6 0,ga 7 (.di none) [.t 6,kc 1],ga 8 (.ld none) [.t 7],ga 9 (.bin .num .add) [.t 5,.t 8],ga 10 (.di none) [.t 2,kc 0],gn (.bd none) [.t 10,.t 9]]) (.seq (.af [gm 11 0,gm 12 0,ga 13 (.di none) [.t 12,kc 3],ga 14 (.ld none) [.t 13],gm 15 0,ga 16 (.di none) [.t 15,kc 0],ga 17 (.ld none) [.t 16],ga 18 (.bin .num .xor) [.t 14,.t 17],ga 19 (.call 130) [.t 18,kc 16],ga 20 (.di none) [.t 11,kc 3],gn (.bd none) [.t 20,.t 19]]) (.seq (.af [gm 21 0,gm 22 0,ga 23 (.di none) [.t 22,kc 2],ga 24 (.ld none) [.t 23],gm 25 0,ga 26 (.di none) [.t 25,kc 3],ga 27 (.ld none) [.t 26],ga 28 (.bin .num .add) [.t 24,.t 27],ga 29 (.di none) [.t 21,kc 2],gn (.bd none) [.t 29,.t 28]]) (.seq (.af [gm 30 0,gm 31 0,ga 32 (.di none) [.t 31,kc 1],ga 33 (.ld none) [.t 32],gm 34 0,ga 35 (.di none) [.t 34,kc 2],ga 36 (.ld none) [.t 35],ga 37 (.bin .num .xor) [.t 33,.t 36],ga 38 (.call 130) [.t 37,kc 12],ga 39 (.di none) [.t 30,kc 1],gn (.bd none) [.t 39,.t 38]]) (.seq (.af [gm 40 0,gm 41 0,ga 42 (.di none) [.t 41,kc 0],ga 43 (.ld none) [.t 42],gm 44 0,ga 45 (.di none) [.t 44,kc 1],ga 46 (.ld none) [.t 45],ga 47 (.bin .num .add) [.t 43,.t 46],ga 48 (.di none) [.t 40,kc 0],gn (.bd none) [.t 48,.t 47]]) (.seq (.af [gm 49 0,gm 50 0,ga 51 (.di none) [.t 50,kc 3],ga 52 (.ld none) [.t 51],gm 53 0,ga 54 (.di none) [.t 53,kc 0],ga 55 (.ld none) [.t 54],ga 56 (.bin .num .xor) [.t 52,.t 55],ga 57 (.call 130) [.t 56,kc 8],ga 58 (.di none) [.t 49,kc 3],gn (.bd none) [.t 58,.t 57]]) (.seq (.af [gm 59 0,gm 60 0,ga 61 (.di none) [.t 60,kc 2],ga 62 (.ld none) [.t 61],gm 63 0,ga 64 (.di none) [.t 63,kc 3],ga 65 (.ld none) [.t 64],ga 66 (.bin .num .add) [.t 62,.t 65],ga 67 (.di none) [.t 59,kc 2],gn (.bd none) [.t 67,.t 66]]) (.af [gm 68 0,gm 69 0,ga 70 (.di none) [.t 69,kc 1],ga 71 (.ld none) [.t 70],gm 72 0,ga 73 (.di none) [.t 72,kc 2],ga 74 (.ld none) [.t 73],ga 75 (.bin .num .xor) [.t 71,.t 74],ga 76 (.call 130) [.t 75,kc 7],ga 77 (.di none) [.t 68,kc 1],gn (.bd none) [.t 77,.t 76]]))))))))
abbrev UT :Go.Vm.Fn:=⟨78,Kk,[],true⟩
theorem Oq :bH Tryz.prog ob Tryz.f122 true=some UT:=by kernel_rfl
theorem Ot :Kk.fits 78=true:=by kernel_rfl
def XU :Go.Vm.C:=(.seq (.af [gm 4 0,gm 5 1,ga 6 (.jg (some 31) false true false) [.t 4,.t 5],ga 7 (.call 131) [.t 6]]) (.seq (.af [gm 8 0,gm 9 1,ga 10 (.jg (some 31) true false false) [.t 8,.t 9],ga 11 (.call 131) [.t 10]]) (.af [gm 12 0,ga 13 (.call 131) [.t 12]])))
abbrev UU :Go.Vm.Fn:=⟨14,XU,[],true⟩
theorem Ou :bH Tryz.prog ob Tryz.f123 true=some UU:=by kernel_rfl
def Ov :Go.Vm.C:=(.seq (.af [ga 4 .mv [kb false]]) (.seq (.af [gm 5 0,gm 6 1,ga 7 (.call 103) [.t 5,.t 6],gm 4 7]) .ret))
abbrev UW :Go.Vm.Fn:=⟨8,Ov,[(.t 4)],true⟩
theorem Ow :bH Tryz.prog ob Tryz.f124 true=some UW:=by kernel_rfl
theorem Ox :Ov.fits 8=true:=by kernel_rfl
def Oy :Go.Vm.C:=(.seq (.af [ga 2 .mv [kc 0]]) (.seq (.af [gm 3 0,ga 4 (.call 132) [.t 3,kc 1],ga 5 (.di none) [.t 4,kc 0],ga 6 (.ld none) [.t 5],ga 7 (.ig .i64) [.t 6],gm 2 7]) .ret))
abbrev UX :Go.Vm.Fn:=⟨8,Oy,[(.t 2)],true⟩
theorem Oz :bH Tryz.prog ob Tryz.f125 true=some UX:=by kernel_rfl
theorem OA :Oy.fits 8=true:=by kernel_rfl
def OB :Go.Vm.C:=(.seq (.af [ga 2 (.eJ (some 31) (.st 31 [(z4 27),ku,(bC 25),kx,ki,ki,(bC 25),(.s (.bool false)),(.s (.bool false))])) []]) (.seq (.af [gm 5 0,ga 6 (.call 133) [.t 5],gm 7 0,ga 8 (.call 127) [.t 7],ga 9 (.dF 31 [(z4 27),ku,(bC 25),kx,ki,ki,(bC 25),(.s (.bool false)),(.s (.bool false))] [0,1]) [.t 6,.t 8],ga 3 (.eJ (some 31) (.st 31 [(z4 27),ku,(bC 25),kx,ki,ki,(bC 25),(.s (.bool false)),(.s (.bool false))])) [],gn (.bd (some 31)) [.t 3,.t 9]]) (.seq (.af [gm 10 0,ga 11 (.call 125) [.t 10],gm 4 11]) (.seq (.af [gm 12 4,ga 13 (.bin .num .neq) [.t 12,kc 0],gm 14 4,ga 15 (.bin .num .eql) [.t 14,kc 3],ga 16 (.fa 31 7) [.t 3],gn (.bd none) [.t 16,.t 13],ga 17 (.fa 31 8) [.t 3],gn (.bd none) [.t 17,.t 15]]) (.seq (.af [gm 18 0,gm 19 0,ga 20 .aN [.t 19],ga 21 (.fa 191 1) [.t 20],ga 22 (.ld none) [.t 21],gm 23 22,gw 23 false 24 .mv [.t 4],gw 23 false 25 (.bin .num .neq) [.t 24,kc 0],gw 23 false 26 .mv [.t 25],gw 26 true 27 .mv [.t 4],gw 26 true 28 (.bin .num .neq) [.t 27,kc 1],gw 23 false 29 .pick [.t 26,.t 28,kb false],gw 23 false 30 .mv [.t 29],gw 30 true 31 .mv [.t 4],gw 30 true 32 (.bin .num .neq) [.t 31,kc 3],gw 23 false 33 .pick [.t 30,.t 32,kb false],ga 34 .pick [.t 23,kb true,.t 33],ga 35 .aN [.t 18],ga 36 (.fa 191 1) [.t 35],gn (.bd none) [.t 36,.t 34]]) (.seq (.af [gm 37 0,ga 38 (.call 125) [.t 37],gm 39 0,ga 40 (.call 125) [.t 39],ga 41 (.fa 31 4) [.t 3],gn (.bd none) [.t 41,.t 38],ga 42 (.fa 31 5) [.t 3],gn (.bd none) [.t 42,.t 40]]) (.seq (.af [gm 43 0,ga 44 (.call 134) [.t 43],gm 45 0,ga 46 (.call 134) [.t 45],ga 47 (.fa 31 2) [.t 3],gn (.bd (some 25)) [.t 47,.t 44],ga 48 (.fa 31 6) [.t 3],gn (.bd (some 25)) [.t 48,.t 46]]) (.seq (.af [gm 49 0,ga 50 (.call 135) [.t 49],ga 51 (.fa 31 3) [.t 3],gn (.bd none) [.t 51,.t 50]]) (.seq (.af [gm 52 0,gm 53 0,ga 54 .aN [.t 53],ga 55 (.fa 191 1) [.t 54],ga 56 (.ld none) [.t 55],gm 57 56,gw 57 false 58 (.ld (some 31)) [.t 3],gw 57 false 59 (.call 75) [.t 58],gw 57 false 60 (.un .not) [.t 59],ga 61 .pick [.t 57,kb true,.t 60],ga 62 .aN [.t 52],ga 63 (.fa 191 1) [.t 62],gn (.bd none) [.t 63,.t 61]]) (.seq (.af [ga 64 (.ld (some 31)) [.t 3],gn (.bd (some 31)) [.t 2,.t 64]]) .ret))))))))))
abbrev UY :Go.Vm.Fn:=⟨65,OB,[(.cell 2 (some 31))],true⟩
theorem OC :bH Tryz.prog ob Tryz.f126 true=some UY:=by kernel_rfl
theorem OD :OB.fits 65=true:=by kernel_rfl
def Gy :Go.Vm.C:=(.loop (.seq (.af [ga 10 (.bin .num .lss) [.t 9,.t 8]]) (.seq (.cond (.t 10) .skip (.exit 0)) (.seq (.block 1 (.seq (.af [ga 11 (.di none) [.t 7,.t 9],ga 12 (.ld none) [.t 11],gm 5 12]) (.af [gm 13 3,ga 14 (.bin .num .shl) [.t 13,(.c (.s (.int .u64 8)))],gm 15 5,ga 16 (.ig .u64) [.t 15],ga 17 (.bin .num .or) [.t 14,.t 16],gm 3 17]))) (.af [ga 18 (.bin .num .add) [.t 9,kc 1],gm 9 18])))))
def Gz :Go.Vm.C:=(.seq (.af [gm 19 3,gm 2 19]) .ret)
def OE :Go.Vm.C:=(.seq (.af [ga 2 .mv [(.c ku)]]) (.seq (.af [ga 3 .mv [(.c ku)]]) (.seq (.seq (.af [gm 6 0,ga 7 (.call 132) [.t 6,kc 8],ga 8 .len [.t 7],ga 9 .mv [kc 0]]) (.block 0 Gy)) Gz)))
abbrev UZ :Go.Vm.Fn:=⟨20,OE,[(.t 2)],true⟩
theorem OF :bH Tryz.prog ob Tryz.f127 true=some UZ:=by kernel_rfl
theorem OG :OE.fits 20=true:=by kernel_rfl
def GA :Go.Vm.C:=(.seq (.af [ga 2 .mv [kb false]]) (.seq (.af [gm 3 0,ga 4 .aN [.t 3],ga 5 (.fa 191 1) [.t 4],ga 6 (.ld none) [.t 5],gm 7 6,gw 7 false 8 .mv [.t 0],gw 7 false 9 .aN [.t 8],gw 7 false 10 (.fa 191 0) [.t 9],gw 7 false 11 (.ld none) [.t 10],gw 7 false 12 .len [.t 11],gw 7 false 13 (.bin .num .gtr) [.t 12,kc 0],ga 14 .pick [.t 7,kb true,.t 13],gm 2 14]) .ret))
abbrev U0 :Go.Vm.Fn:=⟨15,GA,[(.t 2)],true⟩
theorem OH :bH Tryz.prog ob Tryz.f128 true=some U0:=by kernel_rfl
theorem OI :GA.fits 15=true:=by kernel_rfl
def OJ :Go.Vm.C:=(.seq (.af [ga 2 (.eJ (some 31) (.st 31 [(z4 27),ku,(bC 25),kx,ki,ki,(bC 25),(.s (.bool false)),(.s (.bool false))])) [],ga 3 .mv [kc 0],ga 4 .mv [kc 0]]) (.seq (.af [gm 7 0,ga 8 (.dF 191 [(.al true none []),(.s (.bool false))] [0]) [.t 7],ga 9 (.box (some 191)) [.t 8],gm 5 9]) (.seq (.af [gm 10 5,ga 11 (.call 126) [.t 10],ga 6 (.eJ (some 31) (.st 31 [(z4 27),ku,(bC 25),kx,ki,ki,(bC 25),(.s (.bool false)),(.s (.bool false))])) [],gn (.bd (some 31)) [.t 6,.t 11]]) (.seq (.seq (.af [gm 12 5,ga 13 .aN [.t 12],ga 14 (.fa 191 1) [.t 13],ga 15 (.ld none) [.t 14]]) (.cond (.t 15) (.seq (.af [ga 16 (.dF 31 [(z4 27),ku,(bC 25),kx,ki,ki,(bC 25),(.s (.bool false)),(.s (.bool false))] []) [],gn (.bd (some 31)) [.t 2,.t 16],ga 3 .mv [kc 0],ga 4 .mv [kc 12]]) .ret) .skip)) (.seq (.bL [gl 0 0 (ga 17 (.ld (some 31)) [.t 6]),gl 0 1 (gm 18 0),gl 0 1 (ga 19 .len [.t 18]),gl 0 1 (gm 20 5),gl 0 1 (ga 21 .aN [.t 20]),gl 0 1 (ga 22 (.fa 191 0) [.t 21]),gl 0 1 (ga 23 (.ld none) [.t 22]),gl 0 1 (ga 24 .len [.t 23]),gl 0 1 (ga 25 (.bin .num .sub) [.t 19,.t 24]),gl 0 1 (gn (.bd (some 31)) [.t 2,.t 17]),gl 1 1 (gm 3 25),gl 1 1 (ga 4 .mv [kc 0])]) .ret)))))
abbrev U1 :Go.Vm.Fn:=⟨26,OJ,[(.cell 2 (some 31)),(.t 3),(.t 4)],true⟩
theorem OL :bH Tryz.prog ob Tryz.f129 true=some U1:=by kernel_rfl
theorem OM :OJ.fits 26=true:=by kernel_rfl
def zz :Go.Vm.C:=(.loop (.seq (.seq (.af [gm 5 1,ga 6 (.bin .num .gtr) [.t 5,kc 0]]) (.cond (.t 6) .skip (.exit 0))) (.seq (.block 1 (.af [gm 9 0,ga 10 (.bin .num .shl) [.t 9,(.c (.s (.int .u64 1)))],gm 11 0,ga 12 (.bin .num .shr) [.t 11,(.c (.s (.int .u64 31)))],ga 13 (.bin .num .or) [.t 10,.t 12],gm 0 13])) (.af [gm 7 1,ga 8 (.bin .num .sub) [.t 7,kc 1],gm 1 8]))))
def zA :Go.Vm.C:=(.seq (.af [gm 14 0,gm 4 14]) .ret)
def Kl :Go.Vm.C:=(.seq (.af [ga 4 .mv [(.c (.s (.int .u32 0)))]]) (.seq (.block 0 zz) zA))
abbrev U2 :Go.Vm.Fn:=⟨15,Kl,[(.t 4)],true⟩
theorem ON :bH Tryz.prog ob Tryz.f130 true=some U2:=by kernel_rfl
theorem OO :Kl.fits 15=true:=by kernel_rfl
def OP :Go.Vm.C:=(.loop (.seq (.seq (.af [gm 7 2,gm 8 3,ga 9 (.bin .num .lss) [.t 7,.t 8]]) (.cond (.t 9) .skip (.exit 0))) (.seq (.block 1 (.af [gm 14 0,gm 15 2,gm 16 0,gm 17 3,gm 18 0,gm 19 3,ga 20 (.di (some 31)) [.t 18,.t 19],ga 21 (.ld (some 31)) [.t 20],gm 22 0,gm 23 2,ga 24 (.di (some 31)) [.t 22,.t 23],ga 25 (.ld (some 31)) [.t 24],ga 26 (.di (some 31)) [.t 14,.t 15],gn (.bd (some 31)) [.t 26,.t 21],ga 27 (.di (some 31)) [.t 16,.t 17],gn (.bd (some 31)) [.t 27,.t 25]])) (.af [gm 10 2,ga 11 (.bin .num .add) [.t 10,kc 1],gm 12 3,ga 13 (.bin .num .sub) [.t 12,kc 1],gm 2 11,gm 3 13]))))
def XV :Go.Vm.C:=(.seq (.af [gm 4 0,ga 5 .len [.t 4],ga 6 (.bin .num .sub) [.t 5,kc 1],ga 2 .mv [kc 0],gm 3 6]) (.block 0 OP))
abbrev U3 :Go.Vm.Fn:=⟨28,XV,[],true⟩
theorem OQ :bH Tryz.prog ob Tryz.f131 true=some U3:=by kernel_rfl
def Km :Go.Vm.C:=(.seq (.af [ga 4 .mv [(.c (.al true none []))]]) (.seq (.seq (.af [gm 6 0,ga 7 .aN [.t 6],ga 8 (.fa 191 0) [.t 7],ga 9 (.ld none) [.t 8],ga 10 .len [.t 9],gm 11 1,ga 12 (.bin .num .lss) [.t 10,.t 11]]) (.cond (.t 12) (.seq (.af [gm 13 0,gm 14 0,ga 15 .aN [.t 13],ga 16 (.fa 191 0) [.t 15],gn (.bd none) [.t 16,(.c (.al true none []))],ga 17 .aN [.t 14],ga 18 (.fa 191 1) [.t 17],gn (.bd none) [.t 18,kb true]]) (.seq (.af [gm 19 1,ga 20 (.mks none (.s (.int .u8 0))) [.t 19,.t 19],gm 4 20]) .ret)) .skip)) (.seq (.af [gm 21 0,ga 22 .aN [.t 21],ga 23 (.fa 191 0) [.t 22],ga 24 (.ld none) [.t 23],gm 25 1,ga 26 (.jg none false true false) [.t 24,.t 25],gm 5 26]) (.seq (.af [gm 27 0,gm 28 0,ga 29 .aN [.t 28],ga 30 (.fa 191 0) [.t 29],ga 31 (.ld none) [.t 30],gm 32 1,ga 33 (.jg none true false false) [.t 31,.t 32],ga 34 .aN [.t 27],ga 35 (.fa 191 0) [.t 34],gn (.bd none) [.t 35,.t 33]]) (.seq (.af [gm 36 5,gm 4 36]) .ret)))))
abbrev U4 :Go.Vm.Fn:=⟨37,Km,[(.t 4)],true⟩
theorem OR :bH Tryz.prog ob Tryz.f132 true=some U4:=by kernel_rfl
theorem GB :Km.fits 37=true:=by kernel_rfl
def OS :Go.Vm.C:=(.seq (.af [ga 2 (.eJ (some 27) (z4 27)) []]) (.seq (.af [gm 3 0,ga 4 (.call 132) [.t 3,kc 4],ga 5 (.s2a 27 none 4) [.t 4],ga 6 (.ld (some 27)) [.t 5],gn (.bd (some 27)) [.t 2,.t 6]]) .ret))
abbrev U5 :Go.Vm.Fn:=⟨7,OS,[(.cell 2 (some 27))],true⟩
theorem OT :bH Tryz.prog ob Tryz.f133 true=some U5:=by kernel_rfl
theorem OU :OS.fits 7=true:=by kernel_rfl
def OV :Go.Vm.C:=(.seq (.af [ga 2 (.eJ (some 25) (bC 25)) []]) (.seq (.af [gm 3 0,ga 4 (.call 132) [.t 3,kc 16],ga 5 (.s2a 25 none 16) [.t 4],ga 6 (.ld (some 25)) [.t 5],gn (.bd (some 25)) [.t 2,.t 6]]) .ret))
abbrev U6 :Go.Vm.Fn:=⟨7,OV,[(.cell 2 (some 25))],true⟩
theorem OW :bH Tryz.prog ob Tryz.f134 true=some U6:=by kernel_rfl
theorem OX :OV.fits 7=true:=by kernel_rfl
def OY :Go.Vm.C:=(.seq (.af [ga 2 .mv [(.c (.al true none []))]]) (.seq (.af [gm 3 0,gm 4 0,ga 5 (.call 125) [.t 4],ga 6 (.call 132) [.t 3,.t 5],ga 7 (.call 91) [.t 6],gm 2 7]) .ret))
abbrev U7 :Go.Vm.Fn:=⟨8,OY,[(.t 2)],true⟩
theorem OZ :bH Tryz.prog ob Tryz.f135 true=some U7:=by kernel_rfl
theorem O0 :OY.fits 8=true:=by kernel_rfl
theorem nU :(ak Tryz.prog).OK:=GC (by kernel_rfl)
def GF :Nat→Option Go.Vm.Fn:=fun
 | 3=> some F3
 | 4=> some F4
 | 5=> some F5
 | 6=> some F6
 | 7=> some F7
 | 8=> some F8
 | 9=> some F9
 | 10=> some F10
 | 11=> some F11
 | 12=> some F12
 | 13=> some F13
 | 14=> some F14
 | 15=> some F15
 | 16=> some F16
 | 17=> some F17
 | 18=> some F18
 | 19=> some F19
 | 20=> some F20
 | 21=> some F21
 | 22=> some F22
 | 23=> some F23
 | 24=> some F24
 | 25=> some F25
 | 26=> some F26
 | 27=> some F27
 | 28=> some F28
 | 29=> some F29
 | 30=> some F30
 | 31=> some F31
 | 32=> some F32
 | 33=> some F33
 | 34=> some F34
 | 35=> some F35
 | 36=> some F36
 | 37=> some F37
 | 38=> some F38
 | 39=> some F39
 | 40=> some F40
 | 41=> some F41
 | 42=> some F42
 | 43=> some F43
 | 44=> some F44
 | 45=> some F45
 | 46=> some F46
 | 47=> some F47
 | _=> none
theorem GG :rL Tryz.prog GF:=by
 intro f F hf
 unfold GF at hf
 split at hf
 ·cases hf;exact ⟨_,_,Tryz.func3,Xz⟩
 ·cases hf;exact ⟨_,_,Tryz.func4,XF⟩
 ·cases hf;exact ⟨_,_,Tryz.func5,XI⟩
 ·cases hf;exact ⟨_,_,Tryz.func6,XJ⟩
 ·cases hf;exact ⟨_,_,Tryz.func7,XL⟩
 ·cases hf;exact ⟨_,_,Tryz.func8,XN⟩
 ·cases hf;exact ⟨_,_,Tryz.func9,XP⟩
 ·cases hf;exact ⟨_,_,Tryz.func10,RD⟩
 ·cases hf;exact ⟨_,_,Tryz.func11,RG⟩
 ·cases hf;exact ⟨_,_,Tryz.func12,RI⟩
 ·cases hf;exact ⟨_,_,Tryz.func13,RK⟩
 ·cases hf;exact ⟨_,_,Tryz.func14,RM⟩
 ·cases hf;exact ⟨_,_,Tryz.func15,RO⟩
 ·cases hf;exact ⟨_,_,Tryz.func16,RQ⟩
 ·cases hf;exact ⟨_,_,Tryz.func17,RS⟩
 ·cases hf;exact ⟨_,_,Tryz.func18,RU⟩
 ·cases hf;exact ⟨_,_,Tryz.func19,RX⟩
 ·cases hf;exact ⟨_,_,Tryz.func20,RY⟩
 ·cases hf;exact ⟨_,_,Tryz.func21,R0⟩
 ·cases hf;exact ⟨_,_,Tryz.func22,R2⟩
 ·cases hf;exact ⟨_,_,Tryz.func23,R4⟩
 ·cases hf;exact ⟨_,_,Tryz.func24,R6⟩
 ·cases hf;exact ⟨_,_,Tryz.func25,R9⟩
 ·cases hf;exact ⟨_,_,Tryz.func26,Sb⟩
 ·cases hf;exact ⟨_,_,Tryz.func27,Sd⟩
 ·cases hf;exact ⟨_,_,Tryz.func28,Sf⟩
 ·cases hf;exact ⟨_,_,Tryz.func29,Sh⟩
 ·cases hf;exact ⟨_,_,Tryz.func30,Sj⟩
 ·cases hf;exact ⟨_,_,Tryz.func31,Sl⟩
 ·cases hf;exact ⟨_,_,Tryz.func32,Sn⟩
 ·cases hf;exact ⟨_,_,Tryz.func33,Sp⟩
 ·cases hf;exact ⟨_,_,Tryz.func34,Sr⟩
 ·cases hf;exact ⟨_,_,Tryz.func35,Su⟩
 ·cases hf;exact ⟨_,_,Tryz.func36,Sw⟩
 ·cases hf;exact ⟨_,_,Tryz.func37,Sy⟩
 ·cases hf;exact ⟨_,_,Tryz.func38,SA⟩
 ·cases hf;exact ⟨_,_,Tryz.func39,SC⟩
 ·cases hf;exact ⟨_,_,Tryz.func40,SE⟩
 ·cases hf;exact ⟨_,_,Tryz.func41,SG⟩
 ·cases hf;exact ⟨_,_,Tryz.func42,SI⟩
 ·cases hf;exact ⟨_,_,Tryz.func43,SK⟩
 ·cases hf;exact ⟨_,_,Tryz.func44,SM⟩
 ·cases hf;exact ⟨_,_,Tryz.func45,SO⟩
 ·cases hf;exact ⟨_,_,Tryz.func46,SQ⟩
 ·cases hf;exact ⟨_,_,Tryz.func47,SU⟩
 ·cases hf
def GH :Nat→Option Go.Vm.Fn:=fun
 | 48=> some F48
 | 49=> some F49
 | 50=> some F50
 | 51=> some F51
 | 52=> some F52
 | 53=> some F53
 | 54=> some F54
 | 55=> some F55
 | 56=> some F56
 | 57=> some F57
 | 58=> some F58
 | 59=> some F59
 | 61=> some F61
 | 62=> some F62
 | 63=> some F63
 | 64=> some F64
 | 65=> some F65
 | 66=> some F66
 | 67=> some F67
 | 68=> some F68
 | 69=> some F69
 | 70=> some F70
 | 71=> some F71
 | 72=> some F72
 | 73=> some F73
 | 74=> some F74
 | 75=> some F75
 | 76=> some F76
 | 77=> some F77
 | 78=> some F78
 | 79=> some F79
 | 80=> some F80
 | 81=> some F81
 | 82=> some F82
 | 83=> some F83
 | 84=> some F84
 | 85=> some F85
 | 86=> some F86
 | 87=> some F87
 | 88=> some F88
 | 89=> some F89
 | 90=> some F90
 | 92=> some F92
 | 93=> some F93
 | 94=> some F94
 | _=> none
theorem GI :rL Tryz.prog GH:=by
 intro f F hf
 unfold GH at hf
 split at hf
 ·cases hf;exact ⟨_,_,Tryz.func48,SW⟩
 ·cases hf;exact ⟨_,_,Tryz.func49,SY⟩
 ·cases hf;exact ⟨_,_,Tryz.func50,S2⟩
 ·cases hf;exact ⟨_,_,Tryz.func51,S4⟩
 ·cases hf;exact ⟨_,_,Tryz.func52,S6⟩
 ·cases hf;exact ⟨_,_,Tryz.func53,S8⟩
 ·cases hf;exact ⟨_,_,Tryz.func54,Ta⟩
 ·cases hf;exact ⟨_,_,Tryz.func55,Tc⟩
 ·cases hf;exact ⟨_,_,Tryz.func56,Te⟩
 ·cases hf;exact ⟨_,_,Tryz.func57,Tg⟩
 ·cases hf;exact ⟨_,_,Tryz.func58,Ti⟩
 ·cases hf;exact ⟨_,_,Tryz.func59,Tk⟩
 ·cases hf;exact ⟨_,_,Tryz.func61,To⟩
 ·cases hf;exact ⟨_,_,Tryz.func62,Tq⟩
 ·cases hf;exact ⟨_,_,Tryz.func63,Tu⟩
 ·cases hf;exact ⟨_,_,Tryz.func64,Tw⟩
 ·cases hf;exact ⟨_,_,Tryz.func65,Tx⟩
 ·cases hf;exact ⟨_,_,Tryz.func66,Tz⟩
 ·cases hf;exact ⟨_,_,Tryz.func67,TB⟩
 ·cases hf;exact ⟨_,_,Tryz.func68,TD⟩
 ·cases hf;exact ⟨_,_,Tryz.func69,TF⟩
 ·cases hf;exact ⟨_,_,Tryz.func70,TI⟩
 ·cases hf;exact ⟨_,_,Tryz.func71,TK⟩
 ·cases hf;exact ⟨_,_,Tryz.func72,TM⟩
 ·cases hf;exact ⟨_,_,Tryz.func73,TO⟩
 ·cases hf;exact ⟨_,_,Tryz.func74,TQ⟩
 ·cases hf;exact ⟨_,_,Tryz.func75,TT⟩
 ·cases hf;exact ⟨_,_,Tryz.func76,TU⟩
 ·cases hf;exact ⟨_,_,Tryz.func77,TX⟩
 ·cases hf;exact ⟨_,_,Tryz.func78,TZ⟩
 ·cases hf;exact ⟨_,_,Tryz.func79,T1⟩
 ·cases hf;exact ⟨_,_,Tryz.func80,T4⟩
 ·cases hf;exact ⟨_,_,Tryz.func81,T6⟩
 ·cases hf;exact ⟨_,_,Tryz.func82,T8⟩
 ·cases hf;exact ⟨_,_,Tryz.func83,Ua⟩
 ·cases hf;exact ⟨_,_,Tryz.func84,Uc⟩
 ·cases hf;exact ⟨_,_,Tryz.func85,Ue⟩
 ·cases hf;exact ⟨_,_,Tryz.func86,Ug⟩
 ·cases hf;exact ⟨_,_,Tryz.func87,Ui⟩
 ·cases hf;exact ⟨_,_,Tryz.func88,Uk⟩
 ·cases hf;exact ⟨_,_,Tryz.func89,Um⟩
 ·cases hf;exact ⟨_,_,Tryz.func90,Uo⟩
 ·cases hf;exact ⟨_,_,Tryz.func92,MY⟩
 ·cases hf;exact ⟨_,_,Tryz.func93,MZ⟩
 ·cases hf;exact ⟨_,_,Tryz.func94,Us⟩
 ·cases hf
def GJ :Nat→Option Go.Vm.Fn:=fun
 | 95=> some F95
 | 96=> some F96
 | 99=> some F99
 | 100=> some UA
 | 101=> some UB
 | 102=> some UC
 | 103=> some UD
 | 104=> some UE
 | 105=> some UF
 | 106=> some UG
 | 107=> some UH
 | 108=> some UI
 | 109=> some UJ
 | 110=> some NY
 | 111=> some UK
 | 112=> some UL
 | 114=> some UM
 | 116=> some UN
 | 117=> some UO
 | 118=> some UP
 | 119=> some UQ
 | 120=> some UR
 | 121=> some US
 | 122=> some UT
 | 123=> some UU
 | 124=> some UW
 | 125=> some UX
 | 126=> some UY
 | 127=> some UZ
 | 128=> some U0
 | 129=> some U1
 | 130=> some U2
 | 131=> some U3
 | 132=> some U4
 | 133=> some U5
 | 134=> some U6
 | 135=> some U7
 | _=> none
theorem GK :rL Tryz.prog GJ:=by
 intro f F hf
 unfold GJ at hf
 split at hf
 ·cases hf;exact ⟨_,_,Tryz.func95,Uu⟩
 ·cases hf;exact ⟨_,_,Tryz.func96,Uw⟩
 ·cases hf;exact ⟨_,_,Tryz.func99,Uy⟩
 ·cases hf;exact ⟨_,_,Tryz.func100,NB⟩
 ·cases hf;exact ⟨_,_,Tryz.func101,ND⟩
 ·cases hf;exact ⟨_,_,Tryz.func102,NG⟩
 ·cases hf;exact ⟨_,_,Tryz.func103,NI⟩
 ·cases hf;exact ⟨_,_,Tryz.func104,NK⟩
 ·cases hf;exact ⟨_,_,Tryz.func105,NM⟩
 ·cases hf;exact ⟨_,_,Tryz.func106,NP⟩
 ·cases hf;exact ⟨_,_,Tryz.func107,NR⟩
 ·cases hf;exact ⟨_,_,Tryz.func108,NU⟩
 ·cases hf;exact ⟨_,_,Tryz.func109,NW⟩
 ·cases hf;exact ⟨_,_,Tryz.func110,Gs⟩
 ·cases hf;exact ⟨_,_,Tryz.func111,N4⟩
 ·cases hf;exact ⟨_,_,Tryz.func112,N7⟩
 ·cases hf;exact ⟨_,_,Tryz.func114,N9⟩
 ·cases hf;exact ⟨_,_,Tryz.func116,Oa⟩
 ·cases hf;exact ⟨_,_,Tryz.func117,Od⟩
 ·cases hf;exact ⟨_,_,Tryz.func118,Og⟩
 ·cases hf;exact ⟨_,_,Tryz.func119,Oj⟩
 ·cases hf;exact ⟨_,_,Tryz.func120,Ol⟩
 ·cases hf;exact ⟨_,_,Tryz.func121,On⟩
 ·cases hf;exact ⟨_,_,Tryz.func122,Oq⟩
 ·cases hf;exact ⟨_,_,Tryz.func123,Ou⟩
 ·cases hf;exact ⟨_,_,Tryz.func124,Ow⟩
 ·cases hf;exact ⟨_,_,Tryz.func125,Oz⟩
 ·cases hf;exact ⟨_,_,Tryz.func126,OC⟩
 ·cases hf;exact ⟨_,_,Tryz.func127,OF⟩
 ·cases hf;exact ⟨_,_,Tryz.func128,OH⟩
 ·cases hf;exact ⟨_,_,Tryz.func129,OL⟩
 ·cases hf;exact ⟨_,_,Tryz.func130,ON⟩
 ·cases hf;exact ⟨_,_,Tryz.func131,OQ⟩
 ·cases hf;exact ⟨_,_,Tryz.func132,OR⟩
 ·cases hf;exact ⟨_,_,Tryz.func133,OT⟩
 ·cases hf;exact ⟨_,_,Tryz.func134,OW⟩
 ·cases hf;exact ⟨_,_,Tryz.func135,OZ⟩
 ·cases hf
def fns (f:Nat):Option Go.Vm.Fn:=bif Nat.blt f 48 then GF f else bif Nat.blt f 95 then GH f else GJ f
theorem NA :rL Tryz.prog fns:=by
 intro f F hf
 unfold fns at hf
 cases h0:Nat.blt f 48 with
 | true=> rw[h0] at hf;exact GG f F hf
 | false=>
 rw[h0] at hf;simp only[cond_false] at hf
 cases h1:Nat.blt f 95 with
 | true=> rw[h1] at hf;exact GI f F hf
 | false=>
 rw[h1] at hf;simp only[cond_false] at hf
 exact GK f F hf
def pF :Nat→Option Go.Vm.Fn:=fun
 | 60=> some F60
 | 92=> some F92
 | 93=> some F93
 | 110=> some NY
 | _=> none
theorem Kn :rL Tryz.prog pF:=by
 intro f F hf
 unfold pF at hf
 split at hf
 ·cases hf;exact ⟨_,_,Tryz.func60,Tm⟩
 ·cases hf;exact ⟨_,_,Tryz.func92,MY⟩
 ·cases hf;exact ⟨_,_,Tryz.func93,MZ⟩
 ·cases hf;exact ⟨_,_,Tryz.func110,Gs⟩
 ·cases hf
set_option maxRecDepth 100000
structure KV where
 iD:Int
 qY:Int
 owner:Int
 bX:Int
 used:Int
 nm:Int
 gen:Int
 bY:(List UInt8)
 deriving DecidableEq,Inhabited
def KV.enc (a:KV):V:= .st 34 [.s (.int .i64 a.iD),.s (.int .i64 a.qY),.s (.int .i64 a.owner),.s (.int .i64 a.bX),.s (.int .i64 a.used),.s (.int .i64 a.nm),.s (.int .u64 a.gen),.al false none (a.bY.map aa)]
structure KV.wf (a:KV):Prop where
 iD: -9223372036854775808≤a.iD∧a.iD≤9223372036854775807
 qY: -9223372036854775808≤a.qY∧a.qY≤9223372036854775807
 owner: -9223372036854775808≤a.owner∧a.owner≤9223372036854775807
 bX: -9223372036854775808≤a.bX∧a.bX≤9223372036854775807
 used: -9223372036854775808≤a.used∧a.used≤9223372036854775807
 nm: -9223372036854775808≤a.nm∧a.nm≤9223372036854775807
 gen:0≤a.gen∧a.gen≤18446744073709551615
 bY:a.bY.length≤140737488351232
theorem KV.of (n:Nat) {v:V} (h:bR Tryz.prog (n+3) 35 v):∃a:KV,v=a.enc∧a.wf:=by
 obtain ⟨vs,rfl,hl,hf⟩:=of_struct h Tryz.underlying35
 match vs,hl with
 | [x0,x1,x2,x3,x4,x5,x6,x7],_=>
   obtain ⟨a0,rfl,w0⟩:=ec (n:=n+1) (hf 0 _ x0 rfl rfl) Tryz.underlying3
   obtain ⟨a1,rfl,w1⟩:=ec (n:=n+1) (hf 1 _ x1 rfl rfl) Tryz.underlying3
   obtain ⟨a2,rfl,w2⟩:=ec (n:=n+1) (hf 2 _ x2 rfl rfl) Tryz.underlying3
   obtain ⟨a3,rfl,w3⟩:=ec (n:=n+1) (hf 3 _ x3 rfl rfl) Tryz.underlying3
   obtain ⟨a4,rfl,w4⟩:=ec (n:=n+1) (hf 4 _ x4 rfl rfl) Tryz.underlying3
   obtain ⟨a5,rfl,w5⟩:=ec (n:=n+1) (hf 5 _ x5 rfl rfl) Tryz.underlying3
   obtain ⟨a6,rfl,w6⟩:=nV (n:=n+1) (hf 6 _ x6 rfl rfl) Tryz.underlying29
   obtain ⟨a7,rfl,w7⟩:=wS (n:=n+0) (hf 7 _ x7 rfl rfl) Tryz.underlying30 Tryz.underlying5 (by kernel_rfl)
   exact ⟨⟨a0,a1,a2,a3,a4,a5,a6,a7⟩,rfl,⟨w0,w1,w2,w3,w4,w5,w6,w7⟩⟩
structure KR where
 kind:Int
 aA:Int
 dz:Int
 aD:Int
 v:KV
 l:(List KV)
 deriving DecidableEq,Inhabited
def KR.enc (a:KR):V:= .st 37 [.s (.int .i64 a.kind),.s (.int .i64 a.aA),.s (.int .i64 a.dz),.s (.int .u64 a.aD),KV.enc a.v,.al false (some 34) (a.l.map fun z=> KV.enc z)]
structure KR.wf (a:KR):Prop where
 kind: -9223372036854775808≤a.kind∧a.kind≤9223372036854775807
 aA: -9223372036854775808≤a.aA∧a.aA≤9223372036854775807
 dz: -9223372036854775808≤a.dz∧a.dz≤9223372036854775807
 aD:0≤a.aD∧a.aD≤18446744073709551615
 v:a.v.wf
 l:a.l.length≤140737488351232∧∀z∈a.l,z.wf
theorem KR.of (n:Nat) {v:V} (h:bR Tryz.prog (n+5) 38 v):∃a:KR,v=a.enc∧a.wf:=by
 obtain ⟨vs,rfl,hl,hf⟩:=of_struct h Tryz.underlying38
 match vs,hl with
 | [x0,x1,x2,x3,x4,x5],_=>
   obtain ⟨a0,rfl,w0⟩:=ec (n:=n+3) (hf 0 _ x0 rfl rfl) Tryz.underlying3
   obtain ⟨a1,rfl,w1⟩:=ec (n:=n+3) (hf 1 _ x1 rfl rfl) Tryz.underlying3
   obtain ⟨a2,rfl,w2⟩:=ec (n:=n+3) (hf 2 _ x2 rfl rfl) Tryz.underlying3
   obtain ⟨a3,rfl,w3⟩:=nV (n:=n+3) (hf 3 _ x3 rfl rfl) Tryz.underlying29
   obtain ⟨a4,rfl,w4⟩:=KV.of _ (hf 4 _ x4 rfl rfl)
   obtain ⟨a5,rfl,w5⟩:=(Exists.elim (of_slice (f:=fun z=> KV.enc z) (p:=fun z=> z.wf) (n:=n+3) (hf 5 _ x5 rfl rfl) Tryz.underlying36 (by kernel_rfl:aC Tryz.prog 35=(some 34)) (fun x hx=> KV.of _ hx)) fun a q=>(⟨a,q.1,⟨Nat.le_trans (Nat.le_mul_of_pos_right _ (show 1≤Tryz.prog.bytesOf 35 by rw[show Tryz.prog.bytesOf 35=80 from by kernel_rfl];omega)) q.2.1,q.2.2⟩⟩:∃a:List KV,_=V.al false (some 34) (a.map fun z=> KV.enc z)∧a.length≤140737488351232∧∀z∈a,z.wf))
   exact ⟨⟨a0,a1,a2,a3,a4,a5⟩,rfl,⟨w0,w1,w2,w3,w4,w5⟩⟩
structure ag where
 iD:(List UInt8)
 gen:Int
 qY:(List UInt8)
 bY:(List UInt8)
 bX:Int
 used:Int
 owner:(List UInt8)
 gone:Bool
 qq:Bool
 deriving DecidableEq,Inhabited
def ag.enc (a:ag):V:= .st 31 [.arr 27 (a.iD.map aa),.s (.int .u64 a.gen),.arr 25 (a.qY.map aa),.al false none (a.bY.map aa),.s (.int .i64 a.bX),.s (.int .i64 a.used),.arr 25 (a.owner.map aa),.s (.bool a.gone),.s (.bool a.qq)]
structure ag.wf (a:ag):Prop where
 iD:a.iD.length=4
 gen:0≤a.gen∧a.gen≤18446744073709551615
 qY:a.qY.length=16
 bY:a.bY.length≤140737488351232
 bX: -9223372036854775808≤a.bX∧a.bX≤9223372036854775807
 used: -9223372036854775808≤a.used∧a.used≤9223372036854775807
 owner:a.owner.length=16
 gone:True
 qq:True
theorem ag.of (n:Nat) {v:V} (h:bR Tryz.prog (n+3) 32 v):∃a:ag,v=a.enc∧a.wf:=by
 obtain ⟨vs,rfl,hl,hf⟩:=of_struct h Tryz.underlying32
 match vs,hl with
 | [x0,x1,x2,x3,x4,x5,x6,x7,x8],_=>
   obtain ⟨a0,rfl,w0⟩:=ri (n:=n+0) (hf 0 _ x0 rfl rfl) Tryz.underlying28 Tryz.underlying5
   obtain ⟨a1,rfl,w1⟩:=nV (n:=n+1) (hf 1 _ x1 rfl rfl) Tryz.underlying29
   obtain ⟨a2,rfl,w2⟩:=ri (n:=n+0) (hf 2 _ x2 rfl rfl) Tryz.underlying26 Tryz.underlying5
   obtain ⟨a3,rfl,w3⟩:=wS (n:=n+0) (hf 3 _ x3 rfl rfl) Tryz.underlying30 Tryz.underlying5 (by kernel_rfl)
   obtain ⟨a4,rfl,w4⟩:=ec (n:=n+1) (hf 4 _ x4 rfl rfl) Tryz.underlying3
   obtain ⟨a5,rfl,w5⟩:=ec (n:=n+1) (hf 5 _ x5 rfl rfl) Tryz.underlying3
   obtain ⟨a6,rfl,w6⟩:=ri (n:=n+0) (hf 6 _ x6 rfl rfl) Tryz.underlying26 Tryz.underlying5
   obtain ⟨a7,rfl,w7⟩:=(of_bool (n:=n+1) (hf 7 _ x7 rfl rfl) Tryz.underlying4).imp fun _ h=> And.intro h trivial
   obtain ⟨a8,rfl,w8⟩:=(of_bool (n:=n+1) (hf 8 _ x8 rfl rfl) Tryz.underlying4).imp fun _ h=> And.intro h trivial
   exact ⟨⟨a0,a1,a2,a3,a4,a5,a6,a7,a8⟩,rfl,⟨w0,w1,w2,w3,w4,w5,w6,w7,w8⟩⟩
structure aq where
 kind:Int
 aA:Int
 dz:Int
 aD:Int
 av:ag
 ai:(List ag)
 deriving DecidableEq,Inhabited
def aq.enc (a:aq):V:= .st 41 [.s (.int .i64 a.kind),.s (.int .i64 a.aA),.s (.int .i64 a.dz),.s (.int .u64 a.aD),ag.enc a.av,.al false (some 31) (a.ai.map fun z=> ag.enc z)]
structure aq.wf (a:aq):Prop where
 kind: -9223372036854775808≤a.kind∧a.kind≤9223372036854775807
 aA: -9223372036854775808≤a.aA∧a.aA≤9223372036854775807
 dz: -9223372036854775808≤a.dz∧a.dz≤9223372036854775807
 aD:0≤a.aD∧a.aD≤18446744073709551615
 av:a.av.wf
 ai:a.ai.length≤140737488351232∧∀z∈a.ai,z.wf
theorem aq.of (n:Nat) {v:V} (h:bR Tryz.prog (n+5) 42 v):∃a:aq,v=a.enc∧a.wf:=by
 obtain ⟨vs,rfl,hl,hf⟩:=of_struct h Tryz.underlying42
 match vs,hl with
 | [x0,x1,x2,x3,x4,x5],_=>
   obtain ⟨a0,rfl,w0⟩:=ec (n:=n+3) (hf 0 _ x0 rfl rfl) Tryz.underlying3
   obtain ⟨a1,rfl,w1⟩:=ec (n:=n+3) (hf 1 _ x1 rfl rfl) Tryz.underlying3
   obtain ⟨a2,rfl,w2⟩:=ec (n:=n+3) (hf 2 _ x2 rfl rfl) Tryz.underlying3
   obtain ⟨a3,rfl,w3⟩:=nV (n:=n+3) (hf 3 _ x3 rfl rfl) Tryz.underlying29
   obtain ⟨a4,rfl,w4⟩:=ag.of _ (hf 4 _ x4 rfl rfl)
   obtain ⟨a5,rfl,w5⟩:=(Exists.elim (of_slice (f:=fun z=> ag.enc z) (p:=fun z=> z.wf) (n:=n+3) (hf 5 _ x5 rfl rfl) Tryz.underlying40 (by kernel_rfl:aC Tryz.prog 32=(some 31)) (fun x hx=> ag.of _ hx)) fun a q=>(⟨a,q.1,⟨Nat.le_trans (Nat.le_mul_of_pos_right _ (show 1≤Tryz.prog.bytesOf 32 by rw[show Tryz.prog.bytesOf 32=96 from by kernel_rfl];omega)) q.2.1,q.2.2⟩⟩:∃a:List ag,_=V.al false (some 31) (a.map fun z=> ag.enc z)∧a.length≤140737488351232∧∀z∈a,z.wf))
   exact ⟨⟨a0,a1,a2,a3,a4,a5⟩,rfl,⟨w0,w1,w2,w3,w4,w5⟩⟩
structure ae where
 bw:Int
 count:Int
 base:Int
 head:(List UInt8)
 aF:Int
 deriving DecidableEq,Inhabited
def ae.enc (a:ae):V:= .st 53 [.s (.int .u64 a.bw),.s (.int .u64 a.count),.s (.int .u64 a.base),.arr 25 (a.head.map aa),.s (.int .i64 a.aF)]
structure ae.wf (a:ae):Prop where
 bw:0≤a.bw∧a.bw≤18446744073709551615
 count:0≤a.count∧a.count≤18446744073709551615
 base:0≤a.base∧a.base≤18446744073709551615
 head:a.head.length=16
 aF: -9223372036854775808≤a.aF∧a.aF≤9223372036854775807
theorem ae.of (n:Nat) {v:V} (h:bR Tryz.prog (n+3) 54 v):∃a:ae,v=a.enc∧a.wf:=by
 obtain ⟨vs,rfl,hl,hf⟩:=of_struct h Tryz.underlying54
 match vs,hl with
 | [x0,x1,x2,x3,x4],_=>
   obtain ⟨a0,rfl,w0⟩:=nV (n:=n+1) (hf 0 _ x0 rfl rfl) Tryz.underlying29
   obtain ⟨a1,rfl,w1⟩:=nV (n:=n+1) (hf 1 _ x1 rfl rfl) Tryz.underlying29
   obtain ⟨a2,rfl,w2⟩:=nV (n:=n+1) (hf 2 _ x2 rfl rfl) Tryz.underlying29
   obtain ⟨a3,rfl,w3⟩:=ri (n:=n+0) (hf 3 _ x3 rfl rfl) Tryz.underlying26 Tryz.underlying5
   obtain ⟨a4,rfl,w4⟩:=ec (n:=n+1) (hf 4 _ x4 rfl rfl) Tryz.underlying3
   exact ⟨⟨a0,a1,a2,a3,a4⟩,rfl,⟨w0,w1,w2,w3,w4⟩⟩
end Go.Proofs.YtannfageakbpmaaGreat
namespace Go.Cl
abbrev Bs :=List UInt8
def within (n lo hi:Int):Int:=if lo≤n∧n≤hi then n else lo+n %(hi - lo+1)
theorem iC {n lo hi:Int} (h:lo≤hi):lo≤within n lo hi:=by
 unfold within
 split
 ·omega
 ·have:=Int.emod_nonneg n (show hi - lo+1≠0 by omega);omega
theorem iE {n lo hi:Int} (h:lo≤hi):within n lo hi≤hi:=by
 unfold within
 split
 ·omega
 ·have:=Int.emod_lt_of_pos n (show 0 < hi - lo+1 by omega);omega
theorem GL {n m:Int} (hm:0 < m):n % m=if n.tmod m < 0 then n.tmod m+m else n.tmod m:=by
 rw[Int.emod_eq_tmod]
 by_cases h:0≤n
 ·have h1:(0≤n∨m ∣ n):= .inl h
  rw[if_pos h1]
  have:=Int.tmod_nonneg m h
  rw[if_neg (by omega)];omega
 ·by_cases hd:m ∣ n
  ·rw[if_pos (.inr hd),Int.tmod_eq_zero_of_dvd hd];simp
  ·rw[if_neg (by simp[h,hd])]
   have h2:n.tmod m≠0:=fun e=> hd (Int.dvd_of_tmod_eq_zero e)
   have h3:n.tmod m≤0:=by
     have:=Int.tmod_nonneg m (show 0≤ -n by omega)
     rw[Int.neg_tmod] at this;omega
   rw[if_pos (by omega)]
   have:(m.natAbs:Int)=m:=by omega
   rw[this]
end Go.Cl
namespace Go.Cl
open Go Go.Vm
def oM (k x:Nat):Nat:=x * 2 ^ k % 4294967296+x / 2 ^(32 - k)
structure W where
 a:Nat
 b:Nat
 c:Nat
 d:Nat
def xr (a b:Nat):Nat:=(a ^^^ b) % 4294967296
def ad (a b:Nat):Nat:=(a+b) % 4294967296
def half (k1 k2:Nat) (x:W):W:=
 let a:=ad x.a x.b
 let d:=oM k1 (xr x.d a)
 let c:=ad x.c d
 let b:=oM k2 (xr x.b c)
 ⟨a,b,c,d⟩
def gK (x:W):W:=half 8 7 (half 16 12 x)
def W.vs (x:W):List V:=[.s (.int .u32 x.a),.s (.int .u32 x.b),.s (.int .u32 x.c),.s (.int .u32 x.d)]
def W.ok (x:W):Prop:=x.a < 4294967296∧x.b < 4294967296∧x.c < 4294967296∧x.d < 4294967296
theorem Ko (a b:Nat):IntKind.u32.wrap ((a:Int)+(b:Int))=((ad a b:Nat):Int):=by
 have:IntKind.u32.wrap ((a:Int)+(b:Int))=((a:Int)+b) % 4294967296:=by
   simp only[IntKind.wrap,IntKind.bits,IntKind.signed];rfl
 rw[this,ad];omega
theorem iF (n a:Nat):BitVec.ofInt n (a:Int)=BitVec.ofNat n a:=by
 apply BitVec.eq_of_toNat_eq
 rw[BitVec.toNat_ofInt,BitVec.toNat_ofNat];omega
theorem rM {x:Nat} (h:x < 4294967296):IntKind.u32.wrap (x:Int)=(x:Int):=wrap_u32 (by omega) (by omega)
theorem wT (a b:Nat):Kq .u32 (a:Int) (b:Int)=((xr a b:Nat):Int):=by
 have h:Kq .u32 (a:Int) (b:Int)=IntKind.u32.wrap (((BitVec.ofInt 32 (a:Int)^^^ BitVec.ofInt 32 (b:Int)).toNat:Nat):Int):=rfl
 rw[h,iF,iF,BitVec.toNat_xor,BitVec.toNat_ofNat,BitVec.toNat_ofNat,←Nat.xor_mod_two_pow]
 have bW:(a ^^^ b) % 2 ^ 32 < 4294967296:=Nat.mod_lt _ (by decide)
 rw[rM bW]
 rfl
theorem O1 {a b:Nat} (ha:a < 4294967296) (hb:b < 4294967296):orI .u32 (a:Int) (b:Int)=((a ||| b:Nat):Int):=by
 have h:orI .u32 (a:Int) (b:Int)=IntKind.u32.wrap (((BitVec.ofInt 32 (a:Int) ||| BitVec.ofInt 32 (b:Int)).toNat:Nat):Int):=rfl
 rw[h,iF,iF,BitVec.toNat_or,BitVec.toNat_ofNat,BitVec.toNat_ofNat,Nat.mod_eq_of_lt (show a < 2 ^ 32 from ha),Nat.mod_eq_of_lt (show b < 2 ^ 32 from hb)]
 exact rM (Nat.or_lt_two_pow (n:=32) ha hb)
theorem GM {a k:Nat} (hk:k≤32):vt .u32 (a:Int) (k:Int)=((a * 2 ^ k % 4294967296:Nat):Int):=by
 have h:vt .u32 (a:Int) (k:Int)=IntKind.u32.wrap ((a:Int)* 2 ^(min ((k:Int).toNat) 32)):=rfl
 rw[h,Int.toNat_natCast,Nat.min_eq_left hk]
 have h2:((a:Int)* 2 ^ k)=((a * 2 ^ k:Nat):Int):=by simp
 rw[h2]
 have:IntKind.u32.wrap ((a * 2 ^ k:Nat):Int)=((a * 2 ^ k:Nat):Int) % 4294967296:=by
   simp only[IntKind.wrap,IntKind.bits,IntKind.signed];rfl
 rw[this];omega
theorem GN {a k:Nat} (hk:k≤32):pG .u32 (a:Int) (k:Int)=((a / 2 ^ k:Nat):Int):=by
 have h:pG .u32 (a:Int) (k:Int)=(a:Int).fdiv (2 ^(min ((k:Int).toNat) 32)):=rfl
 rw[h,Int.toNat_natCast,Nat.min_eq_left hk,Int.fdiv_eq_ediv_of_nonneg _ (by exact Int.le_of_lt (Int.pow_pos (by decide)))]
 simp
theorem zB {x y k:Nat} (h:y < 2 ^ k):x * 2 ^ k ||| y=x * 2 ^ k+y:=by
 have:=Nat.shiftLeft_add_eq_or_of_lt h x
 rw[Nat.shiftLeft_eq] at this
 exact this.symm
theorem zC {x k:Nat} (hx:x < 4294967296) (hk:k≤32):(x * 2 ^ k % 4294967296) ||| (x / 2 ^(32 - k))=oM k x:=by
 have hp:2 ^(32 - k)* 2 ^ k=4294967296:=by rw[←Nat.pow_add];rw[show 32 - k+k=32 by omega]
 have h1:x * 2 ^ k % 4294967296=(x % 2 ^(32 - k))* 2 ^ k:=by
   rw[←hp,Nat.mul_mod_mul_right]
 have h2:x / 2 ^(32 - k)< 2 ^ k:=by
   rw[Nat.div_lt_iff_lt_mul (Nat.two_pow_pos _),Nat.mul_comm,hp];exact hx
 rw[oM,h1,zB h2]
theorem zD {x k:Nat} (hx:x < 4294967296) (hk:k≤32):oM k x < 4294967296:=by
 rw[←zC hx hk]
 have h2:x / 2 ^(32 - k)< 4294967296:=Nat.lt_of_le_of_lt (Nat.div_le_self _ _) hx
 exact Nat.or_lt_two_pow (n:=32) (Nat.mod_lt _ (by decide)) h2
theorem GO {x:Nat} (hx:x < 4294967296):oM 0 x=x:=by
 simp only[oM,Nat.pow_zero,Nat.mul_one];omega
theorem CN {x j q t r:Nat} (hj:j≤31) (hx:x=q * 2 ^(32 - j)+t * 2 ^(31 - j)+r) (hq:q < 2 ^ j) (ht:t < 2) (hr:r < 2 ^(31 - j)):oM j x=t * 2147483648+(r * 2 ^ j+q)∧oM (j+1) x=(r * 2 ^ j+q)* 2+t∧r * 2 ^ j+q < 2147483648:=by
 obtain ⟨B,hB⟩:∃B,2 ^(31 - j)=B:=⟨_,rfl⟩
 obtain ⟨J,hJ⟩:∃J,2 ^ j=J:=⟨_,rfl⟩
 have hBJ:B * J=2147483648:=by rw[←hB,←hJ,←Nat.pow_add];rw[show 31 - j+j=31 by omega]
 have hA:2 ^(32 - j)=2 * B:=by rw[←hB,show 32 - j=(31 - j)+1 by omega,Nat.pow_succ];omega
 have hs:32 - (j+1)=31 - j:=by omega
 have hJ2:2 ^(j+1)=J * 2:=by rw[Nat.pow_succ,hJ]
 have hB0:0 < B:=by rw[←hB];exact Nat.two_pow_pos _
 rw[hB] at hx hr
 rw[hJ] at hq
 rw[hA] at hx
 have hrJ:r * J+J≤2147483648:=by
   rw[←hBJ,←Nat.succ_mul];exact Nat.mul_le_mul_right _ hr
 have bW:r * J+q < 2147483648:=by omega
 have e1:x * J=q * 4294967296+t * 2147483648+r * J:=by
   rw[hx,Nat.add_mul,Nat.add_mul,Nat.mul_assoc q,Nat.mul_assoc 2 B J,Nat.mul_assoc t B J,hBJ]
 have e2:x /(2 * B)=q:=by
   rw[hx,Nat.add_assoc,Nat.mul_comm q,Nat.mul_add_div (by omega)]
   have:(t * B+r)/(2 * B)=0:=Nat.div_eq_of_lt (by
     have:t * B≤1 * B:=Nat.mul_le_mul_right _ (by omega)
     omega)
   omega
 have e3:x / B=q * 2+t:=by
   have:x=B *(q * 2+t)+r:=by
     rw[hx,Nat.mul_add,Nat.mul_comm B t,←Nat.mul_assoc,←Nat.mul_assoc,Nat.mul_comm B q,Nat.mul_assoc q B 2,Nat.mul_comm B 2,←Nat.mul_assoc]
   rw[this,Nat.mul_add_div hB0,Nat.div_eq_of_lt hr,Nat.add_zero]
 refine ⟨?_,?_,by rw[hJ];exact bW⟩
 ·rw[oM,hJ,hA,e1,e2];omega
 ·rw[oM,hJ2,hs,hB,e3,hJ,←Nat.mul_assoc,e1];omega
theorem GP {x j:Nat} (hx:x < 4294967296) (hj:j≤31):oM 1 (oM j x)=oM (j+1) x:=by
 obtain ⟨B,hB⟩:∃B,2 ^(31 - j)=B:=⟨_,rfl⟩
 have hB0:0 < B:=by rw[←hB];exact Nat.two_pow_pos _
 have hA:2 ^(32 - j)=2 * B:=by rw[←hB,show 32 - j=(31 - j)+1 by omega,Nat.pow_succ];omega
 have hAJ:2 ^(32 - j)* 2 ^ j=4294967296:=by rw[←Nat.pow_add];rw[show 32 - j+j=32 by omega]
 have h1:=Nat.div_add_mod x B
 have h2:=Nat.div_add_mod (x / B) 2
 obtain ⟨g1,g2,g3⟩:=CN (x:=x) (j:=j) (q:=x / B / 2) (t:=x / B % 2) (r:=x % B) hj (by
     rw[hA,hB]
     conv=> lhs;rw[←h1,←h2]
     rw[Nat.mul_add,Nat.mul_comm B (x / B % 2),←Nat.mul_assoc,Nat.mul_comm B 2,Nat.mul_comm (2 * B)])
   (by
     rw[Nat.div_div_eq_div_mul,Nat.mul_comm B 2,←hA,Nat.div_lt_iff_lt_mul (Nat.two_pow_pos _),Nat.mul_comm,hAJ];exact hx)
   (Nat.mod_lt _ (by omega)) (by rw[hB];exact Nat.mod_lt _ hB0)
 rw[g1,g2]
 have ht:x / B % 2 < 2:=Nat.mod_lt _ (by omega)
 generalize x % B * 2 ^ j+x / B / 2=y at g3
 generalize x / B % 2=t at ht
 simp only[oM,Nat.reducePow,Nat.reduceSub];omega
theorem lq (a b:Nat):xr a b < 4294967296:=Nat.mod_lt _ (by decide)
theorem M1 (a b:Nat):ad a b < 4294967296:=Nat.mod_lt _ (by decide)
theorem Kr (k1 k2:Nat) (h1:k1≤32) (h2:k2≤32) (x:W):(half k1 k2 x).ok:=⟨M1 _ _,zD (lq _ _) h2,M1 _ _,zD (lq _ _) h1⟩
theorem oN (x:W):(gK x).ok:=Kr _ _ (by omega) (by omega) _
def nn (l:Bs):Nat:=(l.getD 0 0).toNat+256 *(l.getD 1 0).toNat+65536 *(l.getD 2 0).toNat+16777216 *(l.getD 3 0).toNat
theorem GQ (l:Bs):nn l < 4294967296:=by
 have h0:=(l.getD 0 0).toNat_lt
 have h1:=(l.getD 1 0).toNat_lt
 have h2:=(l.getD 2 0).toNat_lt
 have h3:=(l.getD 3 0).toNat_lt
 unfold nn;omega
theorem wU (l:Bs) (j:Nat) (hj:j < 4):nn l / 256 ^(j+1)* 256+(l.getD j 0).toNat=nn l / 256 ^ j:=by
 have h0:=(l.getD 0 0).toNat_lt
 have h1:=(l.getD 1 0).toNat_lt
 have h2:=(l.getD 2 0).toNat_lt
 have h3:=(l.getD 3 0).toNat_lt
 unfold nn
 have:j=0∨j=1∨j=2∨j=3:=by omega
 rcases this with rfl | rfl | rfl | rfl <;>(simp only[Nat.reducePow,Nat.reduceAdd,Nat.div_one];omega)
theorem Bq (l:Bs):nn l / 256 ^ 4=0:=Nat.div_eq_of_lt (GQ l)
theorem tU (l:Bs) (j:Nat):nn l / 256 ^(j+1)< 16777216:=by
 have h:=GQ l
 rw[Nat.pow_succ,Nat.mul_comm,←Nat.div_div_eq_div_mul]
 exact Nat.lt_of_le_of_lt (Nat.div_le_self _ _) (by omega)
def ff (n:Nat):Nat:=(8 - (n+1) % 8) % 8
def qZ (n:Nat):Nat→Bs
 | 0=> []
 | i+1=> qZ n i++[UInt8.ofNat (n / 2 ^(8 * i) % 256)]
def eT (l:Bs):Bs:=l++[128]++List.replicate (ff l.length) 0++qZ l.length 8
def w0 :W:=⟨1668047222,1768383858,1801807216,1935763045⟩
def O2 (x:W) (t:Bs):W:=gK (gK (gK ⟨xr x.a (nn t),x.b,x.c,xr x.d (nn (t.drop 4))⟩))
def kG (t:Bs):Nat→W
 | 0=> w0
 | i+1=> O2 (kG t i) (t.drop (8 * i))
def dC (x:W):Nat→W
 | 0=> x
 | i+1=> gK (dC x i)
def W.at (x:W) (i:Nat):Nat:=if i=0 then x.a else if i=1 then x.b else if i=2 then x.c else x.d
def fg (x:W):Nat→Bs
 | 0=> []
 | i+1=> fg x i++[UInt8.ofNat (x.at (i / 4)/ 2 ^(8 *(i % 4)) % 256)]
def cS (l:Bs):Bs:=fg (dC (kG (eT l) ((eT l).length / 8)) 8) 16
theorem vu (t:Bs):∀i,(kG t i).ok
 | 0=>(⟨by decide,by decide,by decide,by decide⟩:w0.ok)
 | i+1=> oN _
theorem rN {x:W} (hx:x.ok):∀i,(dC x i).ok
 | 0=> hx
 | i+1=> oN _
theorem oO (n:Nat):∀i,(qZ n i).length=i
 | 0=> rfl
 | i+1=> by simp[qZ,oO n i]
theorem gL (x:W):∀i,(fg x i).length=i
 | 0=> rfl
 | i+1=> by simp[fg,gL x i]
theorem nW (l:Bs):(eT l).length=l.length+1+ff l.length+8:=by simp[eT,oO];omega
theorem rO (l:Bs):(eT l).length % 8=0:=by rw[nW,ff];omega
theorem bj (l:Bs):(cS l).length=16:=gL _ _
end Go.Cl
namespace Go.Proofs.YtannfageakbpmaaGreat
open Go Go.Vm Go.Proofs Go.Cl
def Rd (h:Hp) (x:V) (l:Bs):Prop:=(∀h',Fw [] h h'→elems h' x=some (none,l.map aa))∧fq x=some l.length
theorem rP {h h':Hp} (f:Fw [] h h') {id n:Nat} {r:Option Nat×List V} (hr:rowOf h id n=some r):rowOf h' id n=some r:=by
 unfold rowOf at hr ⊢
 split at hr
 ·rename_i hg
  rw[f.dw _ _ hg (by simp)];exact hr
 ·cases hr
theorem zE {h h':Hp} (f:Fw [] h h') {id n:Nat} {p:List Nat} {r:List V} (hr:Vm.rowAt h id p n=some r):Vm.rowAt h' id p n=some r:=by
 unfold Vm.rowAt at hr ⊢
 split at hr
 ·obtain ⟨q,h1,h2⟩:=Option.map_eq_some_iff.1 hr
  rw[rP f h1];exact Option.map_eq_some_iff.2 ⟨q,rfl,h2⟩
 ·split at hr
  ·rename_i t es hn
   have:node h' id p n=some (.arr t es):=by
     unfold node at hn ⊢
     cases hq:rowOf h id n with
     | none=> rw[hq] at hn;simp at hn
     | some q=> rw[rP f hq];rw[hq] at hn;exact hn
   rw[this];exact hr
  ·cases hr
theorem Rd.mk' {h:Hp} {x:V} {l:Bs} (he:elems h x=some (none,l.map aa)) (hl:fq x=some l.length):Rd h x l:=by
 refine ⟨fun h' f=> ?_,hl⟩
 cases x with
 | al fl g es=> exact he
 | ref id path g off len aw=>
   simp only[elems] at he ⊢
   obtain ⟨q,h1,h2⟩:=Option.map_eq_some_iff.1 he
   rw[zE f h1];exact Option.map_eq_some_iff.2 ⟨q,rfl,h2⟩
 | _=> simp[elems] at he
theorem Rd.fw {h h':Hp} {x:V} {l:Bs} (hr:Rd h x l) (f:Fw [] h h'):Rd h' x l:=⟨fun h2 f2=> hr.1 h2 (f.trans f2),hr.2⟩
theorem BR.rd {h:Hp} {x:V} {l:Bs} (hb:BR h x l):Rd h x l:=Rd.mk' hb.elems hb.len
open Classical in
noncomputable def wV (vs:List V) (h:Hp):Option (V×Hp):=
 match vs with
 | [x]=> match elems h x with
   | some (none,es)=> match bytesOf es with
     | some l=> if es=l.map aa∧fq x=some l.length∧l.length≤1000000 then some (.arr 25 ((cS l).map aa),h) else none
     | none=> none
   | _=> none
 | _=> none
theorem CO {vs:List V} {h:Hp} {v:V} {h':Hp} (hr:wV vs h=some (v,h')):h'=h:=by
 unfold wV at hr
 split at hr
 ·split at hr
  ·split at hr
   ·split at hr
    ·cases hr;rfl
    ·cases hr
   ·cases hr
  ·cases hr
 ·cases hr
theorem Br {h:Hp} {x:V} {l:Bs} (hr:Rd h x l) (hl:l.length≤1000000):wV [x] h=some (.arr 25 ((cS l).map aa),h):=by
 have he:=hr.1 h (Fw.refl _ _)
 simp only[wV,he,jk,hr.2,hl,and_self,if_true]
noncomputable def pr :CF:=fun f vs h=> match f with
 | 91=> dG vs h
 | 98=> wW vs h
 | 97=> eP (some 31) 96 vs h
 | 60=> wV vs h
 | _=> none
theorem wX (b:Nat) (h:Hp) (x y:V) (l m:Bs) (hx:BR h x l) (hy:BR h y m):run fns pr b 103 [x,y] h=some (.s (.bool (decide (l=m))),h):=by
 refine Vm.aU (nt:=10) rfl Gj (by simp) ?_
 have h1:=hx.wY (cf:=run fns pr h.length) (base:=h.length)
 have h2:=hy.wY (cf:=run fns pr h.length) (base:=h.length)
 have:(decide ((⟨l.toArray⟩:ByteArray)=⟨m.toArray⟩))=decide (l=m):=by
   rw[decide_eq_decide];simp
 simp only[Kb,go_sem,↓reduceIte,Nat.reduceEqDiff,Nat.reduceBEq,Nat.reduceAdd,Nat.reduceSub,Nat.reduceLT,Nat.reduceLeDiff,Int.reduceLT,Int.reduceLE,Int.reduceEq,Int.reduceToNat,h1,h2,this]
theorem q18z {n:Nat} (h:n < 4611686018427387904):IntKind.i64.wrap ((n:Int)+1)=((n+1:Nat):Int):=by
 rw[wrap_i64 (by omega) (by omega)];omega
theorem jU (b:Nat) (h:Hp) (n lo hi:Int) (h1: -1000000000≤lo) (h2:lo≤hi) (h3:hi≤1000000000) (CP: -9223372036854775808≤n) (hn1:n≤9223372036854775807):
 run fns pr b 10 [.s (.int .i64 n),.s (.int .i64 lo),.s (.int .i64 hi)] h=some (.s (.int .i64 (within n lo hi)),h):=by
 refine Vm.aU (nt:=33) rfl RE (by simp) ?_
 have w1:IntKind.i64.wrap (hi - lo)=hi - lo:=wrap_i64 (by omega) (by omega)
 have w2:IntKind.i64.wrap (hi - lo+1)=hi - lo+1:=wrap_i64 (by omega) (by omega)
 have hm:=GL (n:=n) (m:=hi - lo+1) (by omega)
 have e0:=Int.emod_nonneg n (show hi - lo+1≠0 by omega)
 have e1:=Int.emod_lt_of_pos n (show 0 < hi - lo+1 by omega)
 have hq:=fun cf base h=> lY cf base h .i64 n (hi - lo+1) (by omega)
 by_cases c1:lo≤n
 ·by_cases c2:n≤hi
  ·have:within n lo hi=n:=by simp[within,c1,c2]
   rw[this]
   simp only[B10,go_sem,↓reduceIte,Nat.reduceEqDiff,Nat.reduceBEq,Nat.reduceAdd,Nat.reduceSub,Nat.reduceLT,Nat.reduceLeDiff,Int.reduceLT,Int.reduceLE,Int.reduceEq,Int.reduceToNat,c1,c2]
  ·have hw:within n lo hi=lo+n %(hi - lo+1):=by simp[within,c2]
   rw[hw,hm]
   by_cases c3:n.tmod (hi - lo+1)< 0
   ·rw[if_pos c3] at hm ⊢
    have w3:IntKind.i64.wrap (n.tmod (hi - lo+1)+hi)=n.tmod (hi - lo+1)+hi:=wrap_i64 (by omega) (by omega)
    have w4:IntKind.i64.wrap (n.tmod (hi - lo+1)+hi - lo)=n.tmod (hi - lo+1)+hi - lo:=wrap_i64 (by omega) (by omega)
    have w5:IntKind.i64.wrap (n.tmod (hi - lo+1)+hi - lo+1)=n.tmod (hi - lo+1)+hi - lo+1:=wrap_i64 (by omega) (by omega)
    have w6:IntKind.i64.wrap (lo+(n.tmod (hi - lo+1)+hi - lo+1))=lo+(n.tmod (hi - lo+1)+hi - lo+1):=wrap_i64 (by omega) (by omega)
    simp only[B10,go_sem,↓reduceIte,Nat.reduceEqDiff,Nat.reduceBEq,Nat.reduceAdd,Nat.reduceSub,Nat.reduceLT,Nat.reduceLeDiff,Int.reduceLT,Int.reduceLE,Int.reduceEq,Int.reduceToNat,c1,c2,w1,w2,hq,c3,w3,w4,w5,w6]
    congr 2;omega
   ·rw[if_neg c3] at hm ⊢
    have w6:IntKind.i64.wrap (lo+n.tmod (hi - lo+1))=lo+n.tmod (hi - lo+1):=wrap_i64 (by omega) (by omega)
    simp only[B10,go_sem,↓reduceIte,Nat.reduceEqDiff,Nat.reduceBEq,Nat.reduceAdd,Nat.reduceSub,Nat.reduceLT,Nat.reduceLeDiff,Int.reduceLT,Int.reduceLE,Int.reduceEq,Int.reduceToNat,c1,c2,w1,w2,hq,c3,w6]
 ·have hw:within n lo hi=lo+n %(hi - lo+1):=by simp[within,c1]
  rw[hw,hm]
  by_cases c3:n.tmod (hi - lo+1)< 0
  ·rw[if_pos c3] at hm ⊢
   have w3:IntKind.i64.wrap (n.tmod (hi - lo+1)+hi)=n.tmod (hi - lo+1)+hi:=wrap_i64 (by omega) (by omega)
   have w4:IntKind.i64.wrap (n.tmod (hi - lo+1)+hi - lo)=n.tmod (hi - lo+1)+hi - lo:=wrap_i64 (by omega) (by omega)
   have w5:IntKind.i64.wrap (n.tmod (hi - lo+1)+hi - lo+1)=n.tmod (hi - lo+1)+hi - lo+1:=wrap_i64 (by omega) (by omega)
   have w6:IntKind.i64.wrap (lo+(n.tmod (hi - lo+1)+hi - lo+1))=lo+(n.tmod (hi - lo+1)+hi - lo+1):=wrap_i64 (by omega) (by omega)
   simp only[B10,go_sem,↓reduceIte,Nat.reduceEqDiff,Nat.reduceBEq,Nat.reduceAdd,Nat.reduceSub,Nat.reduceLT,Nat.reduceLeDiff,Int.reduceLT,Int.reduceLE,Int.reduceEq,Int.reduceToNat,c1,w1,w2,hq,c3,w3,w4,w5,w6]
   congr 2;omega
  ·rw[if_neg c3] at hm ⊢
   have w6:IntKind.i64.wrap (lo+n.tmod (hi - lo+1))=lo+n.tmod (hi - lo+1):=wrap_i64 (by omega) (by omega)
   simp only[B10,go_sem,↓reduceIte,Nat.reduceEqDiff,Nat.reduceBEq,Nat.reduceAdd,Nat.reduceSub,Nat.reduceLT,Nat.reduceLeDiff,Int.reduceLT,Int.reduceLE,Int.reduceEq,Int.reduceToNat,c1,w1,w2,hq,c3,w6]
set_option maxRecDepth 100000
theorem U8 (w:World) (a:Option Addr) (n c:Nat):(binOp .eql 30 (.slice a n c) (.slice none 0 0)).run Tryz.prog w= .ok (.bool a.isNone) w:=by
 simp[binOp,Op.equal,Op.maxDepth,Lib.run_equalIn_slice_nil w 9999 30 5 a n c 0 0 Tryz.underlying30]
def zF :Go.Vm.C:=(.seq (.af [⟨some 5,.ja none [] [],[],none⟩,⟨some 6,.mv,[.t 0],none⟩,⟨some 7,.app none 1,[.t 5,.t 6],none⟩,⟨some 2,.mv,[.t 7],none⟩]) .ret)
theorem zG (x:V) (h:Hp) (v:V) (h':Hp) (hc:dG [x] h=some (v,h')):∃fr',exec (fun _ _ _=> none) 0 zF [x,.bI [],.al true none [],x,.s (.bool false),.bI [],.bI [],.bI []] h=some (.ret,fr',h')∧jV fr' h' [.t 2]=some [v]:=by
 simp only[dG] at hc
 split at hc
 case h_2=> cases hc
 rename_i es he
 have jB:source h x=some (none,es):=by
   cases x with
   | s y=> simp[elems] at he
   | _=> exact he
 have wZ:aB (fun _ _ _=> none) 0 h (.app none 1) [.al true none [],x]=some (v,h'):=by
   simp only[aB,nF,jB,Option.bind_some,cT]
   split at hc
   ·rename_i h0;cases hc;simp[h0,fq]
   ·rename_i h0
    split at hc
    ·rename_i h1;cases hc;simp[h0,h1]
    ·cases hc
 refine ⟨[x,.bI [],v,x,.s (.bool false),.al true none [],x,v],?_,rfl⟩
 have h1:∀fr h,aB (fun _ _ _=> none) 0 h (.ja none [] []) (List.map (X.ev fr) [])=some (.al true none [],h):=fun _ _=> rfl
 have h2:jW (fun _ _ _=> none) 0 [⟨some 5,.ja none [] [],[],none⟩,⟨some 6,.mv,[.t 0],none⟩,⟨some 7,.app none 1,[.t 5,.t 6],none⟩,⟨some 2,.mv,[.t 7],none⟩] [x,.bI [],.al true none [],x,.s (.bool false),.bI [],.bI [],.bI []] h=
  match aB (fun _ _ _=> none) 0 h (.app none 1) [.al true none [],x] with
  | some (v,h')=> some ([x,.bI [],v,x,.s (.bool false),.al true none [],x,v],h')
  | none=> none:=by
   show (match aB (fun _ _ _=> none) 0 h (.app none 1) [.al true none [],x] with
     | some (v,h')=> _
     | none=> none)=_
   cases aB (fun _ _ _=> none) 0 h (.app none 1) [.al true none [],x]<;> rfl
 simp only[zF,exec,h2,wZ,Option.map_some]
theorem qt (hL:(ak Tryz.prog).OK) {c:Ctx} {w:World} {x:V} {u:Value} {h:Hp} {v:V} {h':Hp} (hc:dG [x] h=some (v,h')) (hx:RV (ak Tryz.prog) c x u) (hs:bc (ak Tryz.prog) c h w):eQ Tryz.prog (ak Tryz.prog) c w 91 [u] v h':=by
 have hsl:∃a n k,u= .slice a n k∧(a=none→n=0∧v= .al true none []∧h'=h):=by
   simp only[dG] at hc
   split at hc
   case h_2=> cases hc
   rename_i es he
   cases x with
   | al f g es'=>
     obtain ⟨a,k,h1,h2,h3,h4,h5⟩:=cU.1 hx
     refine ⟨a,_,k,h1,fun ha=> ?_⟩
     rcases h5 with h5 | ⟨b,off,cs,ty,fz,oK,_⟩
     ·simp only[elems,Option.some.injEq,Prod.mk.injEq] at he
      obtain ⟨rfl,rfl⟩:=he
      rw[if_pos h5] at hc
      cases hc
      exact ⟨by simp[h5],rfl,rfl⟩
     ·rw[ha] at oK;cases oK
   | ref id path g off len aw=>
     obtain ⟨a,k,h1,_⟩:=nX.1 hx
     exact ⟨some a,len,k,h1,fun h=> by cases h⟩
   | _=> simp[elems] at he
 obtain ⟨a,n,k,rfl,np⟩:=hsl
 cases a with
 | none=>
   obtain ⟨rfl,rfl,rfl⟩:=np rfl
   have q:=fun w=> U8 w none 0 k
   simp only[Option.isNone_none] at q
   unfold eQ
   go_enter Tryz.func91,Tryz.ntmps91
   go_wp2
   refine bodyPost_ret (v:= .slice none 0 0) (by simp[results,Tryz.results91,go_sem]) rfl ?_
   exact ⟨_,rfl,c,eU (fun _=> rfl),hs,Ctx.le_refl _,St.refl _⟩
 | some a=>
   have q:=fun w=> U8 w (some a) n k
   simp only[Option.isNone_some] at q
   unfold eQ
   go_enter Tryz.func91,Tryz.ntmps91
   refine Go.wp_seq_k fun K1 h1=> ?_
   have h1':=Lib.hid h1;clear h1
   go_wp2
   refine h1'.out _ _ ?_
   refine Go.wp_seq_k fun K2 h2=> ?_
   have h2':=Lib.hid h2;clear h2
   go_wp2
   refine h2'.out _ _ ?_
   obtain ⟨fr',xa,hx2⟩:=zG x h v h' hc
   refine nY (obj:=ob) (k:=zF) (base:=0) (fr:=[x,.bI [],.al true none [],x,.s (.bool false),.bI [],.bI [],.bI []]) hL (cf:=fun _ _ _=> none) (fun f vs h v h' hr=> by cases hr) (by kernel_rfl) ?_ hs xa ?_
   ·exact ⟨hx,cx.2 ⟨[],rfl,trivial⟩,eU (fun _=> rfl),hx,bx.2 ⟨rfl,rfl⟩,cx.2 ⟨[],rfl,trivial⟩,cx.2 ⟨[],rfl,trivial⟩,cx.2 ⟨[],rfl,trivial⟩,trivial⟩
   ·intro a1 c1 w1 p1 p2 p3 p4 p5
    obtain ⟨u,hu1,yW⟩:=lZ hL p1 p2 (fn:=Tryz.f91) (rs:=[.t 2]) (by kernel_rfl) hx2
    exact ⟨p5,u,hu1,u,c1,rfl,yW,p2,p3,p4⟩
theorem oP {vs:List V} {h:Hp} {v:V} {h':Hp} (hc:dG vs h=some (v,h')):∃x,vs=[x]:=by
 unfold dG at hc
 split at hc
 ·exact ⟨_,rfl⟩
 ·cases hc
theorem tV {vs:List V} {h:Hp} {v:V} {h':Hp} (hr:dG vs h=some (v,h')) (base:Nat):Kp base h h':=by
 unfold dG at hr
 split at hr
 ·split at hr
  ·split at hr
   ·cases hr;exact Kp.refl _ _
   ·split at hr
    ·cases hr;exact Kp.append _ _ _
    ·cases hr
  ·cases hr
 ·cases hr
set_option maxRecDepth 100000
def zH :CF:=fun f vs h=> match f with
 | 91=> dG vs h
 | _=> none
theorem O3 :cy Tryz.prog (ak Tryz.prog) zH:=by
 intro f vs h v h' hr
 unfold zH at hr
 split at hr
 ·obtain ⟨x,rfl⟩:=oP hr
  refine ⟨⟨_,Tryz.func91,rfl,by kernel_rfl⟩,fun c w us hv hs=> ?_⟩
  match us,hv with
  | [u],hv=> exact qt nU hr hv.1 hs
 ·cases hr
theorem O4 :KpP zH:=by
 intro f vs h v h' hr base
 unfold zH at hr
 split at hr
 ·exact tV hr base
 ·cases hr
theorem rj (b:Nat) (h:Hp) (x k:Nat) (hx:x < 4294967296) (hk:k=16∨k=12∨k=8∨k=7):run pF zH b 110 [.s (.int .u32 x),.s (.int .i64 k)] h=some (.s (.int .u32 (oM k x:Nat)),h):=by
 refine Vm.aU (nt:=17) rfl NZ (by simp) ?_
 have s1:vt .u32 (x:Int) (k:Int)=_:=GM (a:=x) (k:=k) (by omega)
 have s2:pG .u32 (x:Int) ((32 - k:Nat):Int)=_:=GN (a:=x) (k:=32 - k) (by omega)
 have s3:=O1 (a:=x * 2 ^ k % 4294967296) (b:=x / 2 ^(32 - k)) (Nat.mod_lt _ (by decide)) (Nat.lt_of_le_of_lt (Nat.div_le_self _ _) hx)
 rw[zC hx (by omega)] at s3
 have w1:IntKind.u64.wrap (k:Int)=(k:Int):=wrap_u64 (by omega) (by omega)
 have a1:U9 .u64 (k:Int) 31=(k:Int):=by rcases hk with rfl | rfl | rfl | rfl <;> rfl
 have w2:IntKind.u64.wrap (32 - (k:Int))=((32 - k:Nat):Int):=by rw[wrap_u64 (by omega) (by omega)];omega
 have h1:=fun cf base h=> tW cf base h .u32 .u64 (x:Int) (k:Int) (by omega)
 have h2:=fun cf base h=> oQ cf base h .u32 .u64 (x:Int) ((32 - k:Nat):Int) (by omega)
 have au:(0:Nat)=0:=rfl
 try simp only[Kf,w1,a1,w2,h1,h2,s1,s2,s3,go_sem,↓reduceIte,Nat.reduceEqDiff,Nat.reduceBEq,Nat.reduceAdd,Nat.reduceSub,Nat.reduceLT,Nat.reduceLeDiff,Int.reduceLT,Int.reduceLE,Int.reduceEq,Int.reduceToNat]
 repeat' (
   first | refine q5z ?_ ?_ | refine q3z ?_ ?_ | refine q4z ?_ ?_
   all_goals intro aj
   all_goals first | replace aj:=q2z aj | replace aj:=q1z aj | skip
   all_goals first | subst aj | replace au:=And.intro aj au
   all_goals try simp only[au,Kf,w1,a1,w2,h1,h2,s1,s2,s3,go_sem,↓reduceIte,Nat.reduceEqDiff,Nat.reduceBEq,Nat.reduceAdd,Nat.reduceSub,Nat.reduceLT,Nat.reduceLeDiff,Int.reduceLT,Int.reduceLE,Int.reduceEq,Int.reduceToNat])
theorem eZ (p:Bool) (n:Value):(p || (V.s n).ground)=true:=by cases p <;> rfl
theorem Bt (b:Nat) (h:Hp) (id:Nat) (x:W) (hg:h[id]? =some (.cells (some 155) [.arr 155 x.vs])):
 run pF zH b 93 [.ptr id [0] 1] h=some (.bI [],h.set id (.cells (some 155) [.arr 155 (gK x).vs])):=by
 refine Vm.aU (nt:=98) rfl Ur (by simp) ?_
 have oR:∀c,(h.set id c)[id]? =some c:=fun c=> q9z hg
 have CQ:∀c d,(h.set id c).set id d=h.set id d:=fun c d=> List.set_set ..
 have eA:∀c,(h.set id c).take h.length=h.set id c:=fun c=> List.take_of_length_le (by rw[List.length_set];exact Nat.le_refl _)
 have r16:∀b h y z,run pF zH b 110 [.s (.int .u32 ((xr y z:Nat):Int)),.s (.int .i64 16)] h=some (.s (.int .u32 ((oM 16 (xr y z):Nat):Int)),h):=fun b h y z=> rj b h _ 16 (lq _ _) (by omega)
 have r12:∀b h y z,run pF zH b 110 [.s (.int .u32 ((xr y z:Nat):Int)),.s (.int .i64 12)] h=some (.s (.int .u32 ((oM 12 (xr y z):Nat):Int)),h):=fun b h y z=> rj b h _ 12 (lq _ _) (by omega)
 have r8:∀b h y z,run pF zH b 110 [.s (.int .u32 ((xr y z:Nat):Int)),.s (.int .i64 8)] h=some (.s (.int .u32 ((oM 8 (xr y z):Nat):Int)),h):=fun b h y z=> rj b h _ 8 (lq _ _) (by omega)
 have r7:∀b h y z,run pF zH b 110 [.s (.int .u32 ((xr y z:Nat):Int)),.s (.int .i64 7)] h=some (.s (.int .u32 ((oM 7 (xr y z):Nat):Int)),h):=fun b h y z=> rj b h _ 7 (lq _ _) (by omega)
 simp only[W.vs] at hg
 have l0:(0:Int)<((4:Nat):Int):=by decide
 have l1:(1:Int)<((4:Nat):Int):=by decide
 have l2:(2:Int)<((4:Nat):Int):=by decide
 have l3:(3:Int)<((4:Nat):Int):=by decide
 have au:(0:Nat)=0:=rfl
 try simp only[B93,l0,l1,l2,l3,hg,oR,CQ,eA,Ko,wT,r16,r12,r8,r7,eZ,go_sem,↓reduceIte,Nat.reduceEqDiff,Nat.reduceBEq,Nat.reduceAdd,Nat.reduceSub,Nat.reduceLT,Nat.reduceLeDiff,Int.reduceLT,Int.reduceLE,Int.reduceEq,Int.reduceToNat]
 repeat' (
   first | refine q5z ?_ ?_ | refine q3z ?_ ?_ | refine q4z ?_ ?_
   all_goals intro aj
   all_goals first | replace aj:=q2z aj | replace aj:=q1z aj | skip
   all_goals first | subst aj | replace au:=And.intro aj au
   all_goals try simp only[au,B93,l0,l1,l2,l3,hg,oR,CQ,eA,Ko,wT,r16,r12,r8,r7,eZ,go_sem,↓reduceIte,Nat.reduceEqDiff,Nat.reduceBEq,Nat.reduceAdd,Nat.reduceSub,Nat.reduceLT,Nat.reduceLeDiff,Int.reduceLT,Int.reduceLE,Int.reduceEq,Int.reduceToNat])
 all_goals rfl
theorem GS (b:Nat) (h:Hp) (x:V) (l:Bs) (hb:BR h x l) (hl:4≤l.length):run pF zH b 92 [x] h=some (.s (.int .u32 (nn l:Nat)),h):=by
 refine Vm.aU (nt:=18) rfl Uq (by simp) ?_
 have au:(0:Nat)=0:=rfl
 try simp only[B92,Gi,Gh,go_sem,↓reduceIte,Nat.reduceEqDiff,Nat.reduceBEq,Nat.reduceAdd,Nat.reduceSub,Nat.reduceLT,Nat.reduceLeDiff,Int.reduceLT,Int.reduceLE,Int.reduceEq,Int.reduceToNat]
 repeat' (
   first | refine q5z ?_ ?_ | refine q3z ?_ ?_ | refine q4z ?_ ?_
   all_goals intro aj
   all_goals first | replace aj:=q2z aj | replace aj:=q1z aj | skip
   all_goals first | subst aj | replace au:=And.intro aj au
   all_goals try simp only[au,B92,Gi,Gh,go_sem,↓reduceIte,Nat.reduceEqDiff,Nat.reduceBEq,Nat.reduceAdd,Nat.reduceSub,Nat.reduceLT,Nat.reduceLeDiff,Int.reduceLT,Int.reduceLE,Int.reduceEq,Int.reduceToNat])
 have gW:SR h x none (l.map aa):=by
   rcases hb with ⟨f,rfl⟩ | ⟨id,off,bl,rfl,h1,h2,h3⟩
   ·exact .inl ⟨f,rfl⟩
   ·exact .inr ⟨id,off,bl.length,bl.map aa,by simp,h1,by simp,by simpa using h2,by rw[List.length_map,←List.map_drop,←List.map_take,h3]⟩
 have hv:∀i,i < 4→∃u:Nat,u < 256∧(l.getD i 0).toNat=u∧(∀cf base,aB cf base h (.di none) [x,.s (.int .i64 (i:Nat))]=some (jh x i,h))∧(∀cf base,aB cf base h (.ld none) [jh x i]=some (.s (.int .u8 u),h)):=by
   intro i hi
   have h1:l[i]? =some (l.getD i 0):=by rw[List.getD,List.getElem?_eq_getElem (by omega)];rfl
   exact ⟨_,(l.getD i 0).toNat_lt,rfl,fun cf base=> gW.cX (by simp;omega),fun cf base=> gW.g8 (v:=aa (l.getD i 0)) (by rw[List.getElem?_map,h1];rfl) rfl⟩
 refine bh (fun m e H=>∃j,m=j∧j≤4∧e 4= .s (.int .i64 ((j:Nat) - 1))∧e 3= .s (.int .u32 (nn l / 256 ^ j:Nat))∧e 0=x∧H=h)
   (fun e H=> e 3= .s (.int .u32 (nn l:Nat))∧H=h)
   4 _ _ ⟨4,rfl,by omega,rfl,by rw[Bq];rfl,rfl,rfl⟩ ?_ ?_
 ·rintro m e H ⟨j,rfl,hj,e4,e3,e0,rfl⟩
  cases m with
  | zero=>
    have c':¬(0:Int)≤((0:Nat):Int) - 1:=by omega
    rw[Nat.pow_zero,Nat.div_one] at e3
    have au:(0:Nat)=0:=rfl
    try simp only[e4,c',go_sem,↓reduceIte,Nat.reduceEqDiff,Nat.reduceBEq,Nat.reduceAdd,Nat.reduceSub,Nat.reduceLT,Nat.reduceLeDiff,Int.reduceLT,Int.reduceLE,Int.reduceEq,Int.reduceToNat]
    repeat' (
      first | refine q5z ?_ ?_ | refine q3z ?_ ?_ | refine q4z ?_ ?_
      all_goals intro aj
      all_goals first | replace aj:=q2z aj | replace aj:=q1z aj | skip
      all_goals first | subst aj | replace au:=And.intro aj au
      all_goals try simp only[au,e4,c',go_sem,↓reduceIte,Nat.reduceEqDiff,Nat.reduceBEq,Nat.reduceAdd,Nat.reduceSub,Nat.reduceLT,Nat.reduceLeDiff,Int.reduceLT,Int.reduceLE,Int.reduceEq,Int.reduceToNat])
    all_goals exact e3
  | succ j=>
    have hj1:(((j+1:Nat):Int) - 1)=(j:Int):=by omega
    rw[hj1] at e4
    have c':(0:Int)≤(j:Int):=by omega
    obtain ⟨u,hu,yW,fi,GU⟩:=hv j (by omega)
    have aR:=wU l j (by omega)
    have CR:=tU l j
    rw[yW] at aR
    generalize nn l / 256 ^(j+1)=y at e3 aR CR
    have hw:IntKind.i64.wrap ((j:Int) - 1)=(j:Int) - 1:=wrap_i64 (by omega) (by omega)
    have wu:IntKind.u32.wrap (u:Int)=(u:Int):=wrap_u32 (by omega) (by omega)
    have s1:vt .u32 (y:Int) 8=_:=GM (a:=y) (k:=8) (by omega)
    have e1:y * 2 ^ 8 % 4294967296=y * 2 ^ 8:=Nat.mod_eq_of_lt (by omega)
    rw[e1] at s1
    have h1:∀cf base h,aB cf base h (.bin .num .shl) [.s (.int .u32 y),.s (.int .u64 8)]=some (.s (.int .u32 ((y * 2 ^ 8:Nat):Int)),h):=fun cf base h=> by rw[←s1];exact tW cf base h .u32 .u64 (y:Int) 8 (by omega)
    have s3:=O1 (a:=y * 2 ^ 8) (b:=u) (by omega) (by omega)
    rw[zB (show u < 2 ^ 8 from hu)] at s3
    rw[show y * 2 ^ 8+u=y * 256+u from rfl,aR] at s3
    clear s1 e1
    generalize y * 2 ^ 8=y1 at h1 s3
    have au:(0:Nat)=0:=rfl
    try simp only[e4,e3,e0,c',fi,GU,wu,h1,s3,hw,go_sem,↓reduceIte,Nat.reduceEqDiff,Nat.reduceBEq,Nat.reduceAdd,Nat.reduceSub,Nat.reduceLT,Nat.reduceLeDiff,Int.reduceLT,Int.reduceLE,Int.reduceEq,Int.reduceToNat]
    repeat' (
      first | refine q5z ?_ ?_ | refine q3z ?_ ?_ | refine q4z ?_ ?_
      all_goals intro aj
      all_goals first | replace aj:=q2z aj | replace aj:=q1z aj | skip
      all_goals first | subst aj | replace au:=And.intro aj au
      all_goals try simp only[au,e4,e3,e0,c',fi,GU,wu,h1,s3,hw,go_sem,↓reduceIte,Nat.reduceEqDiff,Nat.reduceBEq,Nat.reduceAdd,Nat.reduceSub,Nat.reduceLT,Nat.reduceLeDiff,Int.reduceLT,Int.reduceLE,Int.reduceEq,Int.reduceToNat])
    all_goals exact ⟨j,by omega,j,rfl,by omega,rfl,rfl⟩
 ·rintro e H ⟨e3,rfl⟩
  have au:(0:Nat)=0:=rfl
  try simp only[e3,go_sem,↓reduceIte,Nat.reduceEqDiff,Nat.reduceBEq,Nat.reduceAdd,Nat.reduceSub,Nat.reduceLT,Nat.reduceLeDiff,Int.reduceLT,Int.reduceLE,Int.reduceEq,Int.reduceToNat]
  repeat' (
    first | refine q5z ?_ ?_ | refine q3z ?_ ?_ | refine q4z ?_ ?_
    all_goals intro aj
    all_goals first | replace aj:=q2z aj | replace aj:=q1z aj | skip
    all_goals first | subst aj | replace au:=And.intro aj au
    all_goals try simp only[au,e3,go_sem,↓reduceIte,Nat.reduceEqDiff,Nat.reduceBEq,Nat.reduceAdd,Nat.reduceSub,Nat.reduceLT,Nat.reduceLeDiff,Int.reduceLT,Int.reduceLE,Int.reduceEq,Int.reduceToNat])
end Go.Proofs.YtannfageakbpmaaGreat
