/- Texts for DeskShards, part 1. Conditions: none. -/
import Derived.Test.YtggjbepemdhohaaGreatCVc
import Derived.Test.YtggjbepemdhohaaGreatProg
import Derived.KernelRfl
import Derived.ProofKit
import Derived.WalkKit
import Derived.WalkSpells
import Derived.Lib.Hide
set_option linter.unusedSimpArgs false
set_option linter.unusedVariables false
set_option linter.unusedSectionVars false
attribute [go_sem] Go.Vm.V.s.injEq Go.Value.bool.injEq List.append_assoc List.length_append Go.Vm.aJ Go.Vm.bA Go.Vm.ba Go.Vm.aW Go.Vm.bf Go.Vm.aX Nat.le_refl Nat.le_add_right Go.Vm.AJ
namespace Go.Proofs.YtggjbepemdhohaaGreat
open Go Go.Vm Go.Proofs
def ob :Nat→Bool:=fun t=>([65,92,96,102,132,138,160,1000005,1000008,1000011,1000015,1000017,1000024,1000026,1000027,1000029,1000030,1000034,1000042,1000056,1000057,1000058,1000060,1000061,1000068,1000069,1000071,1000089,1000099,1000100,1000101,1000105,1000106,1000112,1000114,1000136,1000148,1000167]:List Nat).any fun u=> t==u
def ob2 :Nat→Bool:=fun t=> ob t || ([4000031,5000031]:List Nat).any fun u=> t==u
def ob3 :Nat→Bool:=fun t=> ob t || ([40]:List Nat).any fun u=> t==u
def B3 :Go.Vm.C:=(.seq (.af [ga 4 .mv [kb false]]) (.seq (.af [ga 22 (.gJ 22 [(.s (.int .u8 0)),(.s (.int .u8 0)),(.s (.int .u8 0)),(.s (.int .u8 0)),(.s (.int .u8 0)),(.s (.int .u8 0)),(.s (.int .u8 0)),(.s (.int .u8 0)),(.s (.int .u8 0)),(.s (.int .u8 0)),(.s (.int .u8 0)),(.s (.int .u8 0)),(.s (.int .u8 0)),(.s (.int .u8 0)),(.s (.int .u8 0)),(.s (.int .u8 0))] [0]) [(.c (.s (.int .u8 3)))],ga 5 (.dj (some 22) (aK 22)) [],gn (.aP (some 22)) [.t 5,.t 22]]) (.seq (.af [ga 24 (.ld (some 22)) [.t 5],ga 25 (.call 5) [kc 0,kc 2,.t 24],gm 23 25,ga 26 (.ext 0) [.t 23],ga 27 (.ext 1) [.t 23],gm 6 26,gm 7 27]) (.seq (.af [ga 29 (.ld (some 22)) [.t 5],ga 30 (.call 5) [kc 1,kc 2,.t 29],gm 28 30,ga 31 (.ext 0) [.t 28],ga 32 (.ext 1) [.t 28],gm 8 31,gm 9 32]) (.seq (.seq (.af [gm 33 6,ga 34 (.bin .ptr .eql) [.t 33,(.c (.s (.pointer none)))],gm 35 34,gw 35 false 36 .mv [.t 8],gw 35 false 37 (.bin .ptr .eql) [.t 36,(.c (.s (.pointer none)))],ga 38 .pick [.t 35,kb true,.t 37],gm 39 38,gw 39 false 40 .mv [.t 7],gw 39 false 41 (.bin .num .neq) [.t 40,kc 0],ga 42 .pick [.t 39,kb true,.t 41],gm 43 42,gw 43 false 44 .mv [.t 9],gw 43 false 45 (.bin .num .neq) [.t 44,kc 0],ga 46 .pick [.t 43,kb true,.t 45]]) (.cond (.t 46) (.seq (.af [ga 4 .mv [kb false]]) .ret) .skip)) (.seq (.af [gm 47 0,ga 48 (.call 6) [.t 47],ga 49 (.jg none [(.s (.int .u8 0))] [0]) [(.c (.s (.int .u8 115)))],ga 50 .pe [.t 49],ga 51 (.gJ 22 [(.s (.int .u8 0)),(.s (.int .u8 0)),(.s (.int .u8 0)),(.s (.int .u8 0)),(.s (.int .u8 0)),(.s (.int .u8 0)),(.s (.int .u8 0)),(.s (.int .u8 0)),(.s (.int .u8 0)),(.s (.int .u8 0)),(.s (.int .u8 0)),(.s (.int .u8 0)),(.s (.int .u8 0)),(.s (.int .u8 0)),(.s (.int .u8 0)),(.s (.int .u8 0))] [0]) [(.c (.s (.int .u8 5)))],ga 52 (.cG 33 [ki,(z4 28),(aK 22),kx,ki,(aK 22),(aK 22),ki,ku] [0,1,4,3,6]) [kc 1,.t 48,kc 2,.t 50,.t 51],ga 10 (.dj (some 33) (.st 33 [ki,(z4 28),(aK 22),kx,ki,(aK 22),(aK 22),ki,ku])) [],gn (.aP (some 33)) [.t 10,.t 52]]) (.seq (.af [ga 53 (.fa 33 1) [.t 10],ga 54 (.ld (some 28)) [.t 53],ga 55 (.call 7) [.t 54],gm 11 55]) (.seq (.af [gm 56 6,gm 57 8,gm 12 56,gm 13 57]) (.seq (.seq (.af [gm 58 11,ga 59 (.bin .num .rem) [.t 58,kc 2],ga 60 (.bin .num .eql) [.t 59,kc 1]]) (.cond (.t 60) (.af [gm 61 8,gm 62 6,gm 12 61,gm 13 62]) .skip)) (.seq (.seq (.af [gm 63 1,gm 64 63,gw 64 true 65 .mv [.t 12],gw 64 true 66 .mv [.t 11],gw 64 true 67 .mv [.t 11],gw 64 true 68 (.bin .num .rem) [.t 67,kc 2],gw 64 true 69 (.bin .num .sub) [kc 1,.t 68],gw 64 true 70 (.cG 40 [ki,ki,ki,ku,(.st 37 [(z4 28),ku,(aK 22),kx,ki,ki,(aK 22),(.s (.bool false)),(.s (.bool false))]),(.aq false (some 37) [])] [0,1,2,3]) [kc 2,.t 66,.t 69,(.c (.s (.int .u64 2)))],gw 64 true 71 (.call 8) [.t 65,.t 70],gw 64 true 72 (.bin .num .neq) [.t 71,kc 0],ga 73 .pick [.t 64,.t 72,kb false]]) (.cond (.t 73) (.seq (.af [ga 4 .mv [kb false]]) .ret) .skip)) (.seq (.bc [gl 0 1 (ga 75 (.ld (some 22)) [.t 5]),gl 0 1 (gm 76 11),gl 0 1 (ga 77 (.bin .num .rem) [.t 76,kc 2]),gl 0 1 (ga 78 (.gI .u8) [.t 77]),gl 0 0 (ga 79 (.ld (some 33)) [.t 10]),gl 0 1 (ga 80 (.call 10) [.t 79]),gl 1 2 (ga 81 (.call 9) [.t 75,(.c (.s (.int .u64 1))),.t 78,.t 80]),gl 2 2 (gm 74 81),gl 2 2 (ga 82 (.ext 0) [.t 74]),gl 2 2 (ga 83 (.ext 1) [.t 74]),gl 2 2 (gm 14 82),gl 2 2 (gm 15 83)]) (.seq (.bc [gl 0 1 (ga 85 (.ld (some 22)) [.t 5]),gl 0 1 (gm 86 11),gl 0 1 (ga 87 (.bin .num .rem) [.t 86,kc 2]),gl 0 1 (ga 88 (.bin .num .sub) [kc 1,.t 87]),gl 0 1 (ga 89 (.gI .u8) [.t 88]),gl 0 0 (ga 90 (.ld (some 33)) [.t 10]),gl 0 1 (ga 91 (.call 10) [.t 90]),gl 1 2 (ga 92 (.call 9) [.t 85,(.c (.s (.int .u64 1))),.t 89,.t 91]),gl 2 2 (gm 84 92),gl 2 2 (ga 93 (.ext 0) [.t 84]),gl 2 2 (ga 94 (.ext 1) [.t 84]),gl 2 2 (gm 16 93),gl 2 2 (gm 17 94)]) (.seq (.af [gm 96 12,ga 97 (.ld (some 22)) [.t 5],gm 98 14,ga 99 (.call 11) [.t 96,.t 97,.t 98],gm 95 99,ga 100 (.ext 0) [.t 95],ga 101 (.ext 1) [.t 95],ga 18 (.dj (some 49) (.st 49 [kx,ki,(.s (.bool false)),(.s (.bool false)),(.st 47 [ki,(.st 33 [ki,(z4 28),(aK 22),kx,ki,(aK 22),(aK 22),ki,ku]),(.st 45 [ki,(z4 28),ku,ki,kx,ki,ku])])])) [],gn (.aP (some 49)) [.t 18,.t 100],gm 19 101]) (.seq (.af [gm 103 13,ga 104 (.ld (some 22)) [.t 5],gm 105 16,ga 106 (.call 11) [.t 103,.t 104,.t 105],gm 102 106,ga 107 (.ext 0) [.t 102],ga 108 (.ext 1) [.t 102],ga 20 (.dj (some 49) (.st 49 [kx,ki,(.s (.bool false)),(.s (.bool false)),(.st 47 [ki,(.st 33 [ki,(z4 28),(aK 22),kx,ki,(aK 22),(aK 22),ki,ku]),(.st 45 [ki,(z4 28),ku,ki,kx,ki,ku])])])) [],gn (.aP (some 49)) [.t 20,.t 107],gm 21 108]) (.seq (.seq (.af [gm 109 19,ga 110 (.bin .num .neq) [.t 109,kc 0],gm 111 110,gw 111 false 112 .mv [.t 21],gw 111 false 113 (.bin .num .neq) [.t 112,kc 0],ga 114 .pick [.t 111,kb true,.t 113],gm 115 114,gw 115 false 116 (.fa 49 4) [.t 20],gw 115 false 117 (.fa 47 2) [.t 116],gw 115 false 118 (.fa 45 0) [.t 117],gw 115 false 119 (.ld none) [.t 118],gw 115 false 120 (.bin .num .neq) [.t 119,kc 26],ga 121 .pick [.t 115,kb true,.t 120],gm 122 121,gw 122 false 123 (.fa 49 3) [.t 20],gw 122 false 124 (.ld none) [.t 123],ga 125 .pick [.t 122,kb true,.t 124],gm 126 125,gw 126 false 127 (.fa 49 2) [.t 20],gw 126 false 128 (.ld none) [.t 127],gw 126 false 129 (.un .not) [.t 128],ga 130 .pick [.t 126,kb true,.t 129],gm 131 130,gw 131 false 132 (.fa 49 2) [.t 18],gw 131 false 133 (.ld none) [.t 132],gw 131 false 134 (.un .not) [.t 133],ga 135 .pick [.t 131,kb true,.t 134]]) (.cond (.t 135) (.seq (.af [ga 4 .mv [kb false]]) .ret) .skip)) (.seq (.seq (.af [gm 136 1]) (.cond (.t 136) (.seq (.af [ga 137 (.fa 49 4) [.t 18],ga 138 (.fa 47 2) [.t 137],ga 139 (.fa 45 0) [.t 138],ga 140 (.ld none) [.t 139],ga 141 (.bin .num .eql) [.t 140,kc 27],gm 142 141,gw 142 true 143 (.fa 49 3) [.t 18],gw 142 true 144 (.ld none) [.t 143],gw 142 true 145 (.un .not) [.t 144],ga 146 .pick [.t 142,.t 145,kb false],gm 147 146,gw 147 true 148 (.call 12) [],ga 149 .pick [.t 147,.t 148,kb false],gm 4 149]) .ret) .skip)) (.seq (.af [ga 150 (.fa 49 4) [.t 18],ga 151 (.fa 47 2) [.t 150],ga 152 (.fa 45 0) [.t 151],ga 153 (.ld none) [.t 152],ga 154 (.bin .num .eql) [.t 153,kc 0],gm 155 154,gw 155 true 156 (.fa 49 3) [.t 18],gw 155 true 157 (.ld none) [.t 156],ga 158 .pick [.t 155,.t 157,kb false],gm 159 158,gw 159 true 160 (.call 12) [],ga 161 .pick [.t 159,.t 160,kb false],gm 4 161]) .ret)))))))))))))))))
abbrev F3 :Go.Vm.Fn:=⟨162,B3,[(.t 4)],true⟩
theorem aad :bC Tryz.prog ob Tryz.f3 true=some F3:=by kernel_rfl
theorem aae :B3.fits 162=true:=by kernel_rfl
def aaf :Go.Vm.C:=(.loop (.seq (.seq (.af [gm 73 17,gm 74 1,ga 75 (.call 13) [.t 74,kc 1,kc 12],ga 76 (.bin .num .lss) [.t 73,.t 75]]) (.cond (.t 76) .skip (.exit 0))) (.seq (.block 1 (.seq (.af [gm 79 8,ga 80 (.call 14) [.t 79],gm 18 80]) (.seq (.af [gm 82 8,ga 83 (.ld (some 22)) [.t 7],gm 84 12,ga 85 (.call 11) [.t 82,.t 83,.t 84],gm 81 85,ga 86 (.ext 0) [.t 81],ga 87 (.ext 1) [.t 81],ga 19 (.dj (some 49) (.st 49 [kx,ki,(.s (.bool false)),(.s (.bool false)),(.st 47 [ki,(.st 33 [ki,(z4 28),(aK 22),kx,ki,(aK 22),(aK 22),ki,ku]),(.st 45 [ki,(z4 28),ku,ki,kx,ki,ku])])])) [],gn (.aP (some 49)) [.t 19,.t 86],gm 20 87]) (.seq (.af [ga 88 (.fa 49 4) [.t 19],ga 89 (.fa 47 2) [.t 88],ga 90 (.ld (some 45)) [.t 89],ga 21 (.dj (some 45) (.st 45 [ki,(z4 28),ku,ki,kx,ki,ku])) [],gn (.aP (some 45)) [.t 21,.t 90]]) (.seq (.seq (.af [gm 91 20,ga 92 (.bin .num .neq) [.t 91,kc 0],gm 93 92,gw 93 false 94 (.fa 49 2) [.t 19],gw 93 false 95 (.ld none) [.t 94],gw 93 false 96 (.un .not) [.t 95],ga 97 .pick [.t 93,kb true,.t 96],gm 98 97,gw 98 false 99 .mv [.t 2],gw 98 false 100 .mv [.t 99],gw 100 true 101 (.fa 45 0) [.t 21],gw 100 true 102 (.ld none) [.t 101],gw 100 true 103 (.bin .num .neq) [.t 102,kc 0],gw 100 true 104 .mv [.t 103],gw 104 false 105 (.fa 45 4) [.t 21],gw 104 false 106 (.ld none) [.t 105],gw 104 false 107 .Eb [.t 106],gw 104 false 108 (.bin .num .neq) [.t 107,(.c (.s (.string ⟨#[115]⟩)))],gw 100 true 109 .pick [.t 104,kb true,.t 108],gw 100 true 110 .mv [.t 109],gw 110 false 111 (.fa 45 3) [.t 21],gw 110 false 112 (.ld none) [.t 111],gw 110 false 113 .mv [.t 10],gw 110 false 114 (.bin .num .neq) [.t 112,.t 113],gw 100 true 115 .pick [.t 110,kb true,.t 114],gw 100 true 116 .mv [.t 115],gw 116 false 117 (.fa 49 3) [.t 19],gw 116 false 118 (.ld none) [.t 117],gw 100 true 119 .pick [.t 116,kb true,.t 118],gw 100 true 120 .mv [.t 119],gw 120 false 121 .mv [.t 8],gw 120 false 122 (.call 14) [.t 121],gw 120 false 123 .mv [.t 18],gw 120 false 124 (.bin .num .neq) [.t 122,.t 123],gw 100 true 125 .pick [.t 120,kb true,.t 124],gw 98 false 126 .pick [.t 100,.t 125,kb false],ga 127 .pick [.t 98,kb true,.t 126]]) (.cond (.t 127) (.seq (.af [ga 6 .mv [kb false]]) .ret) .skip)) (.seq (.af [gm 128 2,ga 129 (.un .not) [.t 128],gm 130 129,gw 130 true 131 .mv [.t 17],gw 130 true 132 .mv [.t 10],gw 130 true 133 (.bin .num .lss) [.t 131,.t 132],gw 130 true 134 .mv [.t 133],gw 134 true 135 (.fa 45 0) [.t 21],gw 134 true 136 (.ld none) [.t 135],gw 134 true 137 (.bin .num .neq) [.t 136,kc 23],gw 134 true 138 .mv [.t 137],gw 138 false 139 (.fa 45 3) [.t 21],gw 138 false 140 (.ld none) [.t 139],gw 138 false 141 .mv [.t 10],gw 138 false 142 .mv [.t 17],gw 138 false 143 (.bin .num .sub) [.t 141,.t 142],gw 138 false 144 (.bin .num .sub) [.t 143,kc 1],gw 138 false 145 (.bin .num .neq) [.t 140,.t 144],gw 134 true 146 .pick [.t 138,kb true,.t 145],gw 134 true 147 .mv [.t 146],gw 147 false 148 (.fa 49 3) [.t 19],gw 147 false 149 (.ld none) [.t 148],gw 147 false 150 (.un .not) [.t 149],gw 134 true 151 .pick [.t 147,kb true,.t 150],gw 130 true 152 .pick [.t 134,.t 151,kb false],gw 130 true 153 .mv [.t 152],gw 153 false 154 .mv [.t 17],gw 153 false 155 .mv [.t 10],gw 153 false 156 (.bin .num .geq) [.t 154,.t 155],gw 153 false 157 .mv [.t 156],gw 157 true 158 (.fa 45 0) [.t 21],gw 157 true 159 (.ld none) [.t 158],gw 157 true 160 (.bin .num .neq) [.t 159,kc 24],gw 157 true 161 .mv [.t 160],gw 161 false 162 (.fa 49 3) [.t 19],gw 161 false 163 (.ld none) [.t 162],gw 157 true 164 .pick [.t 161,kb true,.t 163],gw 153 false 165 .pick [.t 157,.t 164,kb false],gw 130 true 166 .pick [.t 153,kb true,.t 165],gw 130 true 167 .mv [.t 166],gw 167 false 168 (.fa 45 4) [.t 21],gw 167 false 169 (.ld none) [.t 168],gw 167 false 170 .len [.t 169],gw 167 false 171 (.bin .num .neq) [.t 170,kc 0],gw 130 true 172 .pick [.t 167,kb true,.t 171],ga 173 .pick [.t 130,.t 172,kb false]]) (.cond (.t 173) (.seq (.af [ga 6 .mv [kb false]]) .ret) .skip))))))) (.af [gm 77 17,ga 78 (.bin .num .add) [.t 77,kc 1],gm 17 78]))))
def aag :Go.Vm.C:=(.seq (.af [ga 174 (.call 12) [],gm 6 174]) .ret)
def B4 :Go.Vm.C:=(.seq (.af [ga 6 .mv [kb false]]) (.seq (.af [ga 22 (.gJ 22 [(.s (.int .u8 0)),(.s (.int .u8 0)),(.s (.int .u8 0)),(.s (.int .u8 0)),(.s (.int .u8 0)),(.s (.int .u8 0)),(.s (.int .u8 0)),(.s (.int .u8 0)),(.s (.int .u8 0)),(.s (.int .u8 0)),(.s (.int .u8 0)),(.s (.int .u8 0)),(.s (.int .u8 0)),(.s (.int .u8 0)),(.s (.int .u8 0)),(.s (.int .u8 0))] [0]) [(.c (.s (.int .u8 1)))],ga 7 (.dj (some 22) (aK 22)) [],gn (.aP (some 22)) [.t 7,.t 22]]) (.seq (.af [ga 24 (.ld (some 22)) [.t 7],ga 25 (.call 5) [kc 0,kc 1,.t 24],gm 23 25,ga 26 (.ext 0) [.t 23],ga 27 (.ext 1) [.t 23],gm 8 26,gm 9 27]) (.seq (.seq (.af [gm 28 8,ga 29 (.bin .ptr .eql) [.t 28,(.c (.s (.pointer none)))],gm 30 29,gw 30 false 31 .mv [.t 9],gw 30 false 32 (.bin .num .neq) [.t 31,kc 0],ga 33 .pick [.t 30,kb true,.t 32]]) (.cond (.t 33) (.seq (.af [ga 6 .mv [kb false]]) .ret) .skip)) (.seq (.af [gm 34 0,ga 35 (.call 13) [.t 34,kc 1,kc 8],gm 10 35]) (.seq (.af [ga 36 (.gJ 28 [(.s (.int .u8 0)),(.s (.int .u8 0)),(.s (.int .u8 0)),(.s (.int .u8 0))] [0]) [(.c (.s (.int .u8 1)))],ga 37 (.gJ 22 [(.s (.int .u8 0)),(.s (.int .u8 0)),(.s (.int .u8 0)),(.s (.int .u8 0)),(.s (.int .u8 0)),(.s (.int .u8 0)),(.s (.int .u8 0)),(.s (.int .u8 0)),(.s (.int .u8 0)),(.s (.int .u8 0)),(.s (.int .u8 0)),(.s (.int .u8 0)),(.s (.int .u8 0)),(.s (.int .u8 0)),(.s (.int .u8 0)),(.s (.int .u8 0))] [0]) [(.c (.s (.int .u8 7)))],gm 38 10,ga 39 (.jg none [(.s (.int .u8 0))] [0]) [(.c (.s (.int .u8 115)))],ga 40 .pe [.t 39],ga 41 (.gJ 22 [(.s (.int .u8 0)),(.s (.int .u8 0)),(.s (.int .u8 0)),(.s (.int .u8 0)),(.s (.int .u8 0)),(.s (.int .u8 0)),(.s (.int .u8 0)),(.s (.int .u8 0)),(.s (.int .u8 0)),(.s (.int .u8 0)),(.s (.int .u8 0)),(.s (.int .u8 0)),(.s (.int .u8 0)),(.s (.int .u8 0)),(.s (.int .u8 0)),(.s (.int .u8 0))] [0]) [(.c (.s (.int .u8 5)))],ga 42 (.cG 33 [ki,(z4 28),(aK 22),kx,ki,(aK 22),(aK 22),ki,ku] [0,1,2,4,3,6]) [kc 1,.t 36,.t 37,.t 38,.t 40,.t 41],ga 11 (.dj (some 33) (.st 33 [ki,(z4 28),(aK 22),kx,ki,(aK 22),(aK 22),ki,ku])) [],gn (.aP (some 33)) [.t 11,.t 42]]) (.seq (.bc [gl 0 1 (ga 44 (.ld (some 22)) [.t 7]),gl 0 0 (ga 45 (.ld (some 33)) [.t 11]),gl 0 1 (ga 46 (.call 10) [.t 45]),gl 1 2 (ga 47 (.call 9) [.t 44,(.c (.s (.int .u64 1))),(.c (.s (.int .u8 0))),.t 46]),gl 2 2 (gm 43 47),gl 2 2 (ga 48 (.ext 0) [.t 43]),gl 2 2 (ga 49 (.ext 1) [.t 43]),gl 2 2 (gm 12 48),gl 2 2 (gm 13 49)]) (.seq (.seq (.af [gm 51 8,ga 52 (.ld (some 22)) [.t 7],gm 53 12,ga 54 (.call 11) [.t 51,.t 52,.t 53],gm 50 54,ga 55 (.ext 0) [.t 50],ga 56 (.ext 1) [.t 50],ga 14 (.dj (some 49) (.st 49 [kx,ki,(.s (.bool false)),(.s (.bool false)),(.st 47 [ki,(.st 33 [ki,(z4 28),(aK 22),kx,ki,(aK 22),(aK 22),ki,ku]),(.st 45 [ki,(z4 28),ku,ki,kx,ki,ku])])])) [],gn (.aP (some 49)) [.t 14,.t 55],gm 15 56]) (.seq (.af [gm 57 15,ga 58 (.bin .num .neq) [.t 57,kc 0]]) (.cond (.t 58) (.seq (.af [ga 6 .mv [kb false]]) .ret) .skip))) (.seq (.af [ga 59 (.gJ 28 [(.s (.int .u8 0)),(.s (.int .u8 0)),(.s (.int .u8 0)),(.s (.int .u8 0))] [0]) [(.c (.s (.int .u8 1)))],ga 60 (.gJ 22 [(.s (.int .u8 0)),(.s (.int .u8 0)),(.s (.int .u8 0)),(.s (.int .u8 0)),(.s (.int .u8 0)),(.s (.int .u8 0)),(.s (.int .u8 0)),(.s (.int .u8 0)),(.s (.int .u8 0)),(.s (.int .u8 0)),(.s (.int .u8 0)),(.s (.int .u8 0)),(.s (.int .u8 0)),(.s (.int .u8 0)),(.s (.int .u8 0)),(.s (.int .u8 0))] [0]) [(.c (.s (.int .u8 8)))],ga 61 (.gJ 22 [(.s (.int .u8 0)),(.s (.int .u8 0)),(.s (.int .u8 0)),(.s (.int .u8 0)),(.s (.int .u8 0)),(.s (.int .u8 0)),(.s (.int .u8 0)),(.s (.int .u8 0)),(.s (.int .u8 0)),(.s (.int .u8 0)),(.s (.int .u8 0)),(.s (.int .u8 0)),(.s (.int .u8 0)),(.s (.int .u8 0)),(.s (.int .u8 0)),(.s (.int .u8 0))] [0]) [(.c (.s (.int .u8 5)))],ga 62 (.cG 33 [ki,(z4 28),(aK 22),kx,ki,(aK 22),(aK 22),ki,ku] [0,1,2,6,8]) [kc 2,.t 59,.t 60,.t 61,(.c (.s (.int .u64 1)))],ga 16 (.dj (some 33) (.st 33 [ki,(z4 28),(aK 22),kx,ki,(aK 22),(aK 22),ki,ku])) [],gn (.aP (some 33)) [.t 16,.t 62]]) (.seq (.seq (.af [gm 63 2]) (.cond (.t 63) (.af [ga 64 (.gJ 22 [(.s (.int .u8 0)),(.s (.int .u8 0)),(.s (.int .u8 0)),(.s (.int .u8 0)),(.s (.int .u8 0)),(.s (.int .u8 0)),(.s (.int .u8 0)),(.s (.int .u8 0)),(.s (.int .u8 0)),(.s (.int .u8 0)),(.s (.int .u8 0)),(.s (.int .u8 0)),(.s (.int .u8 0)),(.s (.int .u8 0)),(.s (.int .u8 0)),(.s (.int .u8 0))] [0]) [(.c (.s (.int .u8 7)))],ga 65 (.fa 33 2) [.t 16],gn (.aP (some 22)) [.t 65,.t 64]]) .skip)) (.seq (.bc [gl 0 1 (ga 67 (.ld (some 22)) [.t 7]),gl 0 0 (ga 68 (.ld (some 33)) [.t 16]),gl 0 1 (ga 69 (.call 10) [.t 68]),gl 1 2 (ga 70 (.call 9) [.t 67,(.c (.s (.int .u64 2))),(.c (.s (.int .u8 0))),.t 69]),gl 2 2 (gm 66 70),gl 2 2 (ga 71 (.ext 0) [.t 66]),gl 2 2 (ga 72 (.ext 1) [.t 66]),gl 2 2 (gm 12 71)]) (.seq (.seq (.af [ga 17 .mv [kc 0]]) (.block 0 aaf)) aag))))))))))))
abbrev F4 :Go.Vm.Fn:=⟨175,B4,[(.t 6)],true⟩
theorem aah :bC Tryz.prog ob Tryz.f4 true=some F4:=by kernel_rfl
def B5 :Go.Vm.C:=(.seq (.af [ga 5 (.box (some 22)) [.t 2],ga 6 .mv [(.c (.s (.pointer none)))],ga 7 .mv [kc 0]]) (.seq (.af [gm 9 0,gm 10 1,ga 11 (.call 15) [.t 9,.t 10],gm 8 11]) (.seq (.seq (.af [gm 12 8,ga 13 (.bin .ptr .eql) [.t 12,(.c (.s (.pointer none)))]]) (.cond (.t 13) (.seq (.af [ga 6 .mv [(.c (.s (.pointer none)))],ga 7 .mv [kc 1]]) .ret) .skip)) (.seq (.af [gm 14 0,gm 15 1,ga 16 (.ld (some 22)) [.t 5],gm 17 0,ga 18 (.call 16) [.t 16,.t 17],gm 19 8,ga 20 (.call 17) [],ga 21 (.cG 65 [ki,ki,(aK 22),ki,(.s (.pointer none)),(.s (.pointer none)),(.st 63 [ku,ku,ku,(aK 22),ki]),ki,ki,ki] [0,1,2,3,4,5,8]) [.t 14,.t 15,.t 18,kc 1,.t 19,.t 20,kc (-1)],ga 22 (.box (some 65)) [.t 21],gm 6 22,ga 7 .mv [kc 0]]) .ret))))
abbrev F5 :Go.Vm.Fn:=⟨23,B5,[(.t 6),(.t 7)],false⟩
theorem aai :bC Tryz.prog ob Tryz.f5 false=some F5:=by kernel_rfl
theorem aaj :B5.fits 23=true:=by kernel_rfl
def B6 :Go.Vm.C:=(.seq (.af [ga 2 (.dj (some 28) (z4 28)) []]) (.seq (.af [gm 3 0,ga 4 (.call 13) [.t 3,kc 0,kc 255],ga 5 (.gI .u8) [.t 4],ga 6 (.gJ 28 [(.s (.int .u8 0)),(.s (.int .u8 0)),(.s (.int .u8 0)),(.s (.int .u8 0))] [0,1]) [.t 5,(.c (.s (.int .u8 7)))],gn (.aP (some 28)) [.t 2,.t 6]]) .ret))
abbrev F6 :Go.Vm.Fn:=⟨7,B6,[(.cell 2 (some 28))],true⟩
theorem aak :bC Tryz.prog ob Tryz.f6 true=some F6:=by kernel_rfl
theorem aal :B6.fits 7=true:=by kernel_rfl
def B7 :Go.Vm.C:=(.seq (.af [ga 1 (.box (some 28)) [.t 0],ga 2 .mv [kc 0]]) (.seq (.af [ga 4 (.mC 28 none false false) [.t 1],ga 5 (.call 18) [.t 4],ga 3 (.dj (some 22) (aK 22)) [],gn (.aP (some 22)) [.t 3,.t 5]]) (.seq (.af [ga 6 (.kG 22) [.t 3,kc 0],ga 7 (.ld none) [.t 6],ga 8 (.bin .num .rem) [.t 7,(.c (.s (.int .u8 16)))],ga 9 (.gI .i64) [.t 8],gm 2 9]) .ret)))
abbrev F7 :Go.Vm.Fn:=⟨10,B7,[(.t 2)],true⟩
theorem aam :bC Tryz.prog ob Tryz.f7 true=some F7:=by kernel_rfl
theorem aan :B7.fits 10=true:=by kernel_rfl
def B8 :Go.Vm.C:=(.seq (.af [ga 3 (.box (some 40)) [.t 1],ga 4 .mv [kc 0]]) (.seq (.seq (.af [gm 11 0,ga 12 (.call 19) [.t 11],gm 5 12]) (.seq (.af [gm 13 5,ga 14 (.bin .num .neq) [.t 13,kc 0]]) (.cond (.t 14) (.seq (.af [gm 15 5,gm 4 15]) .ret) .skip))) (.seq (.seq (.af [gm 16 0,ga 17 .bL [.t 16],ga 18 (.fa 65 4) [.t 17],ga 19 (.ld none) [.t 18],ga 20 (.ld (some 40)) [.t 3],ga 21 (.call 20) [.t 19,.t 20],gm 6 21]) (.seq (.af [gm 22 6,ga 23 (.bin .num .neq) [.t 22,kc 0]]) (.cond (.t 23) (.seq (.af [gm 24 6,gm 4 24]) .ret) .skip))) (.seq (.af [gm 26 0,ga 27 .bL [.t 26],ga 28 (.fa 65 2) [.t 27],ga 29 (.ld (some 22)) [.t 28],gm 30 0,ga 31 .bL [.t 30],ga 32 (.fa 65 6) [.t 31],ga 33 (.fa 63 1) [.t 32],ga 34 (.ld none) [.t 33],ga 35 (.bin .num .add) [.t 34,(.c (.s (.int .u64 1)))],gm 36 0,ga 37 .bL [.t 36],ga 38 (.fa 65 6) [.t 37],ga 39 (.fa 63 3) [.t 38],ga 40 (.ld (some 22)) [.t 39],ga 41 (.ld (some 40)) [.t 3],ga 42 (.call 21) [.t 29,.t 35,.t 40,.t 41],gm 25 42,ga 43 (.ext 0) [.t 25],ga 44 (.ext 1) [.t 25],gm 7 43,gm 8 44]) (.seq (.bc [gl 0 1 (gm 46 0),gl 0 1 (ga 47 .bL [.t 46]),gl 0 1 (ga 48 (.fa 65 6) [.t 47]),gl 0 1 (ga 49 (.ld (some 63)) [.t 48]),gl 0 1 (gm 50 0),gl 0 1 (ga 51 .bL [.t 50]),gl 0 1 (ga 52 (.fa 65 6) [.t 51]),gl 0 1 (ga 53 (.fa 63 3) [.t 52]),gl 0 1 (ga 54 (.ld (some 22)) [.t 53]),gl 0 1 (gm 55 7),gl 0 1 (ga 56 (.eB 23) [.t 54,.t 55]),gl 0 1 (ga 57 (.eB 22) [.t 49,.t 56]),gl 0 1 (gm 45 57),gl 0 1 (ga 58 (.ext 0) [.t 45]),gl 0 2 (ga 59 (.ext 1) [.t 45]),gl 0 1 (ga 9 (.dj (some 63) (.st 63 [ku,ku,ku,(aK 22),ki])) []),gl 1 2 (gn (.aP (some 63)) [.t 9,.t 58]),gl 2 2 (gm 10 59)]) (.seq (.seq (.af [gm 60 10,ga 61 (.un .not) [.t 60]]) (.cond (.t 61) (.seq (.af [ga 4 .mv [kc 31]]) .ret) .skip)) (.seq (.seq (.af [gm 62 0,gm 63 0,ga 64 .bL [.t 63],ga 65 (.fa 65 6) [.t 64],ga 66 (.ld (some 63)) [.t 65],ga 67 (.call 25) [.t 66],gm 68 7,ga 69 (.call 24) [.t 62,.t 67,.t 68],ga 70 (.un .not) [.t 69],gm 71 70,gw 71 false 72 .mv [.t 0],gw 71 false 73 (.call 26) [.t 72],gw 71 false 74 (.un .not) [.t 73],ga 75 .pick [.t 71,kb true,.t 74]]) (.cond (.t 75) (.seq (.af [ga 4 .mv [kc 29]]) .ret) .skip)) (.seq (.af [gm 76 0,ga 77 (.ld (some 63)) [.t 9],ga 78 .bL [.t 76],ga 79 (.fa 65 6) [.t 78],gn (.aP (some 63)) [.t 79,.t 77]]) (.seq (.af [gm 80 0,ga 81 .bL [.t 80],ga 82 (.fa 65 4) [.t 81],ga 83 (.ld none) [.t 82],ga 84 (.ld (some 40)) [.t 3],ga 85 (.call 27) [.t 83,.t 84]]) (.seq (.seq (.af [gm 86 0,ga 87 .bL [.t 86],ga 88 (.fa 65 6) [.t 87],ga 89 (.ld (some 63)) [.t 88],ga 90 (.call 28) [.t 89],ga 91 (.bin .num .eql) [.t 90,kc 8],gm 92 91,gw 92 true 93 .mv [.t 0],gw 92 true 94 (.call 29) [.t 93],gw 92 true 95 (.un .not) [.t 94],ga 96 .pick [.t 92,.t 95,kb false]]) (.cond (.t 96) (.seq (.af [ga 4 .mv [kc 29]]) .ret) .skip)) (.seq (.af [ga 4 .mv [kc 0]]) .ret)))))))))))
abbrev F8 :Go.Vm.Fn:=⟨97,B8,[(.t 4)],false⟩
theorem aao :bC Tryz.prog ob Tryz.f8 false=some F8:=by kernel_rfl
theorem aap :B8.fits 97=true:=by kernel_rfl
def B9 :Go.Vm.C:=(.seq (.af [ga 4 (.box (some 22)) [.t 0],ga 8 .mv [(.c (.aq true none []))],ga 9 .mv [kc 0]]) (.seq (.seq (.af [gm 10 3,ga 11 .len [.t 10],ga 12 (.bin .num .gtr) [.t 11,kc 8176]]) (.cond (.t 12) (.seq (.af [ga 8 .mv [(.c (.aq true none []))],ga 9 .mv [kc 3]]) .ret) .skip)) (.seq (.bc [gl 0 0 (gm 13 1),gl 0 1 (ga 14 (.call 30) [.t 13]),gl 0 1 (ga 15 (.ld (some 22)) [.t 4]),gl 0 1 (gm 16 1),gl 1 1 (ga 17 (.eB 32) [.t 15,.t 16]),gl 0 1 (gm 18 1),gl 0 1 (gm 19 2),gl 0 1 (ga 20 (.uY none [(.s (.int .u8 0))] [0]) [.t 19]),gl 0 1 (gm 21 3),gl 1 1 (ga 22 (.eB 31) [.t 17,.t 18,.t 20,.t 21]),gl 1 2 (ga 23 (.app none 1) [.t 14,.t 22]),gl 2 2 (gm 8 23),gl 2 2 (ga 9 .mv [kc 0])]) .ret)))
abbrev F9 :Go.Vm.Fn:=⟨24,B9,[(.t 8),(.t 9)],true⟩
theorem aaq :bC Tryz.prog ob Tryz.f9 true=some F9:=by kernel_rfl
theorem aar :B9.fits 24=true:=by kernel_rfl
def B10 :Go.Vm.C:=(.seq (.af [ga 1 (.box (some 33)) [.t 0],ga 2 .mv [(.c (.aq true none []))]]) (.seq (.bc [gl 0 0 (ga 4 (.fa 33 0) [.t 1]),gl 0 0 (ga 5 (.ld none) [.t 4]),gl 0 0 (ga 6 (.gI .u8) [.t 5]),gl 0 1 (ga 7 (.jg none [(.s (.int .u8 0))] [0]) [.t 6]),gl 0 1 (ga 8 (.fa 33 1) [.t 1]),gl 0 1 (ga 9 (.mC 28 none false false) [.t 8]),gl 1 2 (ga 10 (.app none 1) [.t 7,.t 9]),gl 2 2 (gm 3 10)]) (.seq (.bc [gl 0 0 (gm 11 3),gl 0 0 (ga 12 (.fa 33 2) [.t 1]),gl 0 0 (ga 13 (.mC 22 none false false) [.t 12]),gl 0 1 (ga 14 (.app none 1) [.t 11,.t 13]),gl 0 1 (ga 15 (.fa 33 4) [.t 1]),gl 0 1 (ga 16 (.ld none) [.t 15]),gl 0 1 (ga 17 (.gI .u8) [.t 16]),gl 0 1 (ga 18 (.uY none [(.s (.int .u8 0))] [0]) [.t 17]),gl 1 2 (ga 19 (.app none 1) [.t 14,.t 18]),gl 0 2 (ga 20 (.fa 33 5) [.t 1]),gl 0 2 (ga 21 (.mC 22 none false false) [.t 20]),gl 2 3 (ga 22 (.app none 1) [.t 19,.t 21]),gl 3 3 (gm 3 22)]) (.seq (.bc [gl 0 0 (gm 23 3),gl 0 0 (ga 24 (.fa 33 6) [.t 1]),gl 0 0 (ga 25 (.mC 22 none false false) [.t 24]),gl 0 1 (ga 26 (.app none 1) [.t 23,.t 25]),gl 0 1 (ga 27 (.fa 33 7) [.t 1]),gl 0 1 (ga 28 (.ld none) [.t 27]),gl 0 1 (ga 29 (.gI .u8) [.t 28]),gl 0 1 (ga 30 (.uY none [(.s (.int .u8 0))] [0]) [.t 29]),gl 1 2 (ga 31 (.app none 1) [.t 26,.t 30]),gl 0 2 (ga 32 (.fa 33 8) [.t 1]),gl 0 2 (ga 33 (.ld none) [.t 32]),gl 2 3 (ga 34 (.call 30) [.t 33]),gl 3 4 (ga 35 (.app none 1) [.t 31,.t 34]),gl 4 4 (gm 3 35)]) (.seq (.bc [gl 0 1 (gm 36 3),gl 0 0 (ga 37 (.fa 33 3) [.t 1]),gl 0 0 (ga 38 (.ld none) [.t 37]),gl 0 0 (ga 39 .len [.t 38]),gl 0 0 (ga 40 (.gI .u8) [.t 39]),gl 0 1 (ga 41 (.jg none [(.s (.int .u8 0))] [0]) [.t 40]),gl 1 2 (ga 42 (.app none 1) [.t 36,.t 41]),gl 0 2 (ga 43 (.fa 33 3) [.t 1]),gl 0 2 (ga 44 (.ld none) [.t 43]),gl 2 3 (ga 45 (.app none 1) [.t 42,.t 44]),gl 3 3 (gm 2 45)]) .ret)))))
abbrev F10 :Go.Vm.Fn:=⟨46,B10,[(.t 2)],true⟩
theorem T1 :bC Tryz.prog ob Tryz.f10 true=some F10:=by kernel_rfl
theorem T3 :B10.fits 46=true:=by kernel_rfl
def B11 :Go.Vm.C:=(.seq (.af [ga 4 (.box (some 22)) [.t 1],ga 6 (.dj (some 49) (.st 49 [kx,ki,(.s (.bool false)),(.s (.bool false)),(.st 47 [ki,(.st 33 [ki,(z4 28),(aK 22),kx,ki,(aK 22),(aK 22),ki,ku]),(.st 45 [ki,(z4 28),ku,ki,kx,ki,ku])])])) [],ga 7 .mv [kc 0]]) (.seq (.block 0 (.seq (.af [gm 21 0,ga 22 (.bin .ptr .eql) [.t 21,(.c (.s (.pointer none)))],gm 20 22]) (.cond (.t 20) (.seq (.af [ga 23 (.cG 49 [kx,ki,(.s (.bool false)),(.s (.bool false)),(.st 47 [ki,(.st 33 [ki,(z4 28),(aK 22),kx,ki,(aK 22),(aK 22),ki,ku]),(.st 45 [ki,(z4 28),ku,ki,kx,ki,ku])])] []) [],gn (.aP (some 49)) [.t 6,.t 23],ga 7 .mv [kc 1]]) .ret) (.seq (.af [gm 25 0,ga 26 (.call 33) [.t 25],ga 27 (.bin .num .eql) [.t 26,kc 2],gm 24 27]) (.cond (.t 24) (.seq (.af [ga 28 (.cG 49 [kx,ki,(.s (.bool false)),(.s (.bool false)),(.st 47 [ki,(.st 33 [ki,(z4 28),(aK 22),kx,ki,(aK 22),(aK 22),ki,ku]),(.st 45 [ki,(z4 28),ku,ki,kx,ki,ku])])] []) [],gn (.aP (some 49)) [.t 6,.t 28],ga 7 .mv [kc 29]]) .ret) (.seq (.af [gm 30 0,ga 31 (.call 33) [.t 30],ga 32 (.bin .num .eql) [.t 31,kc 3],gm 29 32]) (.cond (.t 29) (.seq (.af [ga 33 (.cG 49 [kx,ki,(.s (.bool false)),(.s (.bool false)),(.st 47 [ki,(.st 33 [ki,(z4 28),(aK 22),kx,ki,(aK 22),(aK 22),ki,ku]),(.st 45 [ki,(z4 28),ku,ki,kx,ki,ku])])] []) [],gn (.aP (some 49)) [.t 6,.t 33],ga 7 .mv [kc 28]]) .ret) .skip))))))) (.seq (.af [gm 34 0,ga 35 (.call 34) [.t 34],gm 8 35]) (.seq (.af [gm 37 8,ga 38 (.call 35) [.t 37],gm 36 38,ga 39 (.ext 0) [.t 36],ga 40 (.ext 1) [.t 36],gm 9 39,gm 10 40]) (.seq (.af [ga 42 (.ld (some 22)) [.t 4],gm 43 9,gm 44 2,ga 45 (.call 36) [.t 42,.t 43,.t 44],gm 41 45,ga 46 (.ext 0) [.t 41],ga 47 (.ext 1) [.t 41],ga 11 (.dj (some 33) (.st 33 [ki,(z4 28),(aK 22),kx,ki,(aK 22),(aK 22),ki,ku])) [],gn (.aP (some 33)) [.t 11,.t 46],gm 12 47]) (.seq (.seq (.af [gm 48 12,ga 49 (.bin .num .neq) [.t 48,kc 0]]) (.cond (.t 49) (.seq (.af [ga 50 (.cG 49 [kx,ki,(.s (.bool false)),(.s (.bool false)),(.st 47 [ki,(.st 33 [ki,(z4 28),(aK 22),kx,ki,(aK 22),(aK 22),ki,ku]),(.st 45 [ki,(z4 28),ku,ki,kx,ki,ku])])] []) [],gm 51 12,gn (.aP (some 49)) [.t 6,.t 50],gm 7 51]) .ret) .skip)) (.seq (.af [gm 53 8,ga 54 (.ld (some 33)) [.t 11],ga 55 (.call 37) [.t 53,.t 54],gm 52 55,ga 56 (.ext 0) [.t 52],ga 57 (.ext 1) [.t 52],ga 58 (.ext 2) [.t 52],ga 13 (.dj (some 37) (.st 37 [(z4 28),ku,(aK 22),kx,ki,ki,(aK 22),(.s (.bool false)),(.s (.bool false))])) [],ga 14 (.dj (some 45) (.st 45 [ki,(z4 28),ku,ki,kx,ki,ku])) [],gn (.aP (some 37)) [.t 13,.t 56],gn (.aP (some 45)) [.t 14,.t 57],gm 15 58]) (.seq (.af [gm 59 9,ga 60 (.ld (some 33)) [.t 11],ga 61 (.ld (some 45)) [.t 14],ga 62 (.cG 47 [ki,(.st 33 [ki,(z4 28),(aK 22),kx,ki,(aK 22),(aK 22),ki,ku]),(.st 45 [ki,(z4 28),ku,ki,kx,ki,ku])] [0,1,2]) [.t 59,.t 60,.t 61],ga 16 (.dj (some 47) (.st 47 [ki,(.st 33 [ki,(z4 28),(aK 22),kx,ki,(aK 22),(aK 22),ki,ku]),(.st 45 [ki,(z4 28),ku,ki,kx,ki,ku])])) [],gn (.aP (some 47)) [.t 16,.t 62]]) (.seq (.seq (.af [gm 63 15]) (.cond (.t 63) (.seq (.af [gm 64 0,ga 65 (.call 38) [.t 64],ga 66 (.fld 63 1) [.t 65],gm 17 66]) (.seq (.af [gm 67 0,ga 68 (.ld (some 37)) [.t 13],ga 69 (.cG 40 [ki,ki,ki,ku,(.st 37 [(z4 28),ku,(aK 22),kx,ki,ki,(aK 22),(.s (.bool false)),(.s (.bool false))]),(.aq false (some 37) [])] [0,4]) [kc 1,.t 68],ga 70 (.call 8) [.t 67,.t 69],gm 18 70]) (.seq (.af [gm 71 18,ga 72 (.bin .num .neq) [.t 71,kc 0]]) (.cond (.t 72) (.seq (.seq (.af [gm 73 0,ga 74 (.call 38) [.t 73],ga 75 (.fld 63 1) [.t 74],gm 76 17,ga 77 (.bin .num .eql) [.t 75,.t 76]]) (.cond (.t 77) (.seq (.af [ga 78 (.cG 49 [kx,ki,(.s (.bool false)),(.s (.bool false)),(.st 47 [ki,(.st 33 [ki,(z4 28),(aK 22),kx,ki,(aK 22),(aK 22),ki,ku]),(.st 45 [ki,(z4 28),ku,ki,kx,ki,ku])])] []) [],gm 79 18,gn (.aP (some 49)) [.t 6,.t 78],gm 7 79]) .ret) .skip)) (.seq (.af [ga 80 (.ld (some 47)) [.t 16],ga 81 (.cG 49 [kx,ki,(.s (.bool false)),(.s (.bool false)),(.st 47 [ki,(.st 33 [ki,(z4 28),(aK 22),kx,ki,(aK 22),(aK 22),ki,ku]),(.st 45 [ki,(z4 28),ku,ki,kx,ki,ku])])] [3,4]) [kb true,.t 80],gm 82 18,gn (.aP (some 49)) [.t 6,.t 81],gm 7 82]) .ret)) .skip)))) .skip)) (.seq (.af [ga 84 (.ld (some 33)) [.t 11],ga 85 (.ld (some 45)) [.t 14],ga 86 (.call 39) [.t 84,.t 85],gm 83 86,ga 87 (.ext 0) [.t 83],ga 88 (.ext 1) [.t 83],gm 19 87,gm 12 88]) (.seq (.seq (.af [gm 89 12,ga 90 (.bin .num .neq) [.t 89,kc 0]]) (.cond (.t 90) (.seq (.af [ga 91 (.cG 49 [kx,ki,(.s (.bool false)),(.s (.bool false)),(.st 47 [ki,(.st 33 [ki,(z4 28),(aK 22),kx,ki,(aK 22),(aK 22),ki,ku]),(.st 45 [ki,(z4 28),ku,ki,kx,ki,ku])])] []) [],gm 92 12,gn (.aP (some 49)) [.t 6,.t 91],gm 7 92]) .ret) .skip)) (.seq (.af [gm 93 19,ga 94 (.fa 33 7) [.t 11],ga 95 (.ld none) [.t 94],gm 96 15,ga 97 (.ld (some 47)) [.t 16],ga 98 (.cG 49 [kx,ki,(.s (.bool false)),(.s (.bool false)),(.st 47 [ki,(.st 33 [ki,(z4 28),(aK 22),kx,ki,(aK 22),(aK 22),ki,ku]),(.st 45 [ki,(z4 28),ku,ki,kx,ki,ku])])] [0,1,2,3,4]) [.t 93,.t 95,kb true,.t 96,.t 97],gn (.aP (some 49)) [.t 6,.t 98],ga 7 .mv [kc 0]]) .ret))))))))))))
abbrev F11 :Go.Vm.Fn:=⟨99,B11,[(.cell 6 (some 49)),(.t 7)],false⟩
theorem T4 :bC Tryz.prog ob Tryz.f11 false=some F11:=by kernel_rfl
theorem Hd :B11.fits 99=true:=by kernel_rfl
def B12 :Go.Vm.C:=(.seq (.af [ga 0 .mv [kb false]]) (.seq (.af [ga 17 (.gJ 22 [(.s (.int .u8 0)),(.s (.int .u8 0)),(.s (.int .u8 0)),(.s (.int .u8 0)),(.s (.int .u8 0)),(.s (.int .u8 0)),(.s (.int .u8 0)),(.s (.int .u8 0)),(.s (.int .u8 0)),(.s (.int .u8 0)),(.s (.int .u8 0)),(.s (.int .u8 0)),(.s (.int .u8 0)),(.s (.int .u8 0)),(.s (.int .u8 0)),(.s (.int .u8 0))] [0]) [(.c (.s (.int .u8 1)))],ga 1 (.dj (some 22) (aK 22)) [],gn (.aP (some 22)) [.t 1,.t 17]]) (.seq (.af [ga 19 (.ld (some 22)) [.t 1],ga 20 (.call 5) [kc 0,kc 1,.t 19],gm 18 20,ga 21 (.ext 0) [.t 18],ga 22 (.ext 1) [.t 18],gm 2 21,gm 3 22]) (.seq (.seq (.af [gm 23 2,ga 24 (.bin .ptr .eql) [.t 23,(.c (.s (.pointer none)))],gm 25 24,gw 25 false 26 .mv [.t 3],gw 25 false 27 (.bin .num .neq) [.t 26,kc 0],ga 28 .pick [.t 25,kb true,.t 27]]) (.cond (.t 28) (.seq (.af [ga 0 .mv [kb false]]) .ret) .skip)) (.seq (.af [ga 29 (.gJ 28 [(.s (.int .u8 0)),(.s (.int .u8 0)),(.s (.int .u8 0)),(.s (.int .u8 0))] [0]) [(.c (.s (.int .u8 1)))],ga 30 (.jg none [(.s (.int .u8 0))] [0]) [(.c (.s (.int .u8 115)))],ga 31 .pe [.t 30],ga 32 (.gJ 22 [(.s (.int .u8 0)),(.s (.int .u8 0)),(.s (.int .u8 0)),(.s (.int .u8 0)),(.s (.int .u8 0)),(.s (.int .u8 0)),(.s (.int .u8 0)),(.s (.int .u8 0)),(.s (.int .u8 0)),(.s (.int .u8 0)),(.s (.int .u8 0)),(.s (.int .u8 0)),(.s (.int .u8 0)),(.s (.int .u8 0)),(.s (.int .u8 0)),(.s (.int .u8 0))] [0]) [(.c (.s (.int .u8 5)))],ga 33 (.cG 33 [ki,(z4 28),(aK 22),kx,ki,(aK 22),(aK 22),ki,ku] [0,1,4,3,6]) [kc 1,.t 29,kc 2,.t 31,.t 32],ga 4 (.dj (some 33) (.st 33 [ki,(z4 28),(aK 22),kx,ki,(aK 22),(aK 22),ki,ku])) [],gn (.aP (some 33)) [.t 4,.t 33]]) (.seq (.bc [gl 0 1 (ga 35 (.ld (some 22)) [.t 1]),gl 0 0 (ga 36 (.ld (some 33)) [.t 4]),gl 0 1 (ga 37 (.call 10) [.t 36]),gl 1 2 (ga 38 (.call 9) [.t 35,(.c (.s (.int .u64 1))),(.c (.s (.int .u8 0))),.t 37]),gl 2 2 (gm 34 38),gl 2 2 (ga 39 (.ext 0) [.t 34]),gl 2 2 (ga 40 (.ext 1) [.t 34]),gl 2 2 (gm 5 39),gl 2 2 (gm 6 40)]) (.seq (.af [gm 42 2,ga 43 (.ld (some 22)) [.t 1],gm 44 5,ga 45 (.call 11) [.t 42,.t 43,.t 44],gm 41 45,ga 46 (.ext 0) [.t 41],ga 47 (.ext 1) [.t 41],ga 7 (.dj (some 49) (.st 49 [kx,ki,(.s (.bool false)),(.s (.bool false)),(.st 47 [ki,(.st 33 [ki,(z4 28),(aK 22),kx,ki,(aK 22),(aK 22),ki,ku]),(.st 45 [ki,(z4 28),ku,ki,kx,ki,ku])])])) [],gn (.aP (some 49)) [.t 7,.t 46],gm 8 47]) (.seq (.af [ga 49 (.gJ 22 [(.s (.int .u8 0)),(.s (.int .u8 0)),(.s (.int .u8 0)),(.s (.int .u8 0)),(.s (.int .u8 0)),(.s (.int .u8 0)),(.s (.int .u8 0)),(.s (.int .u8 0)),(.s (.int .u8 0)),(.s (.int .u8 0)),(.s (.int .u8 0)),(.s (.int .u8 0)),(.s (.int .u8 0)),(.s (.int .u8 0)),(.s (.int .u8 0)),(.s (.int .u8 0))] [0]) [(.c (.s (.int .u8 5)))],ga 50 (.fa 49 0) [.t 7],ga 51 (.ld none) [.t 50],ga 52 (.call 40) [.t 49,(.c (.s (.int .u8 128))),.t 51],gm 48 52,ga 53 (.ext 0) [.t 48],ga 54 (.ext 1) [.t 48],gm 9 53,gm 10 54]) (.seq (.af [gm 56 9,ga 57 (.call 41) [.t 56],gm 55 57,ga 58 (.ext 0) [.t 55],ga 59 (.ext 1) [.t 55],ga 11 (.dj (some 45) (.st 45 [ki,(z4 28),ku,ki,kx,ki,ku])) [],gn (.aP (some 45)) [.t 11,.t 58],gm 12 59]) (.seq (.af [gm 61 2,ga 62 (.ld (some 22)) [.t 1],ga 63 (.call 11) [.t 61,.t 62,(.c (.aq true none []))],gm 60 63,ga 64 (.ext 0) [.t 60],ga 65 (.ext 1) [.t 60],ga 13 (.dj (some 49) (.st 49 [kx,ki,(.s (.bool false)),(.s (.bool false)),(.st 47 [ki,(.st 33 [ki,(z4 28),(aK 22),kx,ki,(aK 22),(aK 22),ki,ku]),(.st 45 [ki,(z4 28),ku,ki,kx,ki,ku])])])) [],gn (.aP (some 49)) [.t 13,.t 64],gm 14 65]) (.seq (.af [ga 67 (.ld (some 22)) [.t 1],gm 68 5,ga 69 (.call 11) [(.c (.s (.pointer none))),.t 67,.t 68],gm 66 69,ga 70 (.ext 0) [.t 66],ga 71 (.ext 1) [.t 66],ga 15 (.dj (some 49) (.st 49 [kx,ki,(.s (.bool false)),(.s (.bool false)),(.st 47 [ki,(.st 33 [ki,(z4 28),(aK 22),kx,ki,(aK 22),(aK 22),ki,ku]),(.st 45 [ki,(z4 28),ku,ki,kx,ki,ku])])])) [],gn (.aP (some 49)) [.t 15,.t 70],gm 16 71]) (.seq (.af [gm 72 8,ga 73 (.bin .num .eql) [.t 72,kc 0],gm 74 73,gw 74 true 75 (.fa 49 2) [.t 7],gw 74 true 76 (.ld none) [.t 75],ga 77 .pick [.t 74,.t 76,kb false],gm 78 77,gw 78 true 79 (.fa 49 3) [.t 7],gw 78 true 80 (.ld none) [.t 79],ga 81 .pick [.t 78,.t 80,kb false],gm 82 81,gw 82 true 83 .mv [.t 10],gw 82 true 84 (.bin .num .eql) [.t 83,kc 0],ga 85 .pick [.t 82,.t 84,kb false],gm 86 85,gw 86 true 87 .mv [.t 12],ga 88 .pick [.t 86,.t 87,kb false],gm 89 88,gw 89 true 90 (.fa 45 2) [.t 11],gw 89 true 91 (.ld none) [.t 90],gw 89 true 92 (.bin .num .eql) [.t 91,(.c (.s (.int .u64 1)))],ga 93 .pick [.t 89,.t 92,kb false],gm 94 93,gw 94 true 95 (.fa 45 3) [.t 11],gw 94 true 96 (.ld none) [.t 95],gw 94 true 97 (.bin .num .eql) [.t 96,kc 2],ga 98 .pick [.t 94,.t 97,kb false],gm 99 98,gw 99 true 100 .mv [.t 14],gw 99 true 101 (.bin .num .eql) [.t 100,kc 12],ga 102 .pick [.t 99,.t 101,kb false],gm 103 102,gw 103 true 104 .mv [.t 16],gw 103 true 105 (.bin .num .eql) [.t 104,kc 1],ga 106 .pick [.t 103,.t 105,kb false],gm 107 106,gw 107 true 108 .mv [.t 2],gw 107 true 109 (.call 38) [.t 108],gw 107 true 110 (.fld 63 1) [.t 109],gw 107 true 111 (.bin .num .eql) [.t 110,(.c (.s (.int .u64 1)))],ga 112 .pick [.t 107,.t 111,kb false],gm 0 112]) .ret))))))))))))
abbrev F12 :Go.Vm.Fn:=⟨113,B12,[(.t 0)],true⟩
theorem T5 :bC Tryz.prog ob Tryz.f12 true=some F12:=by kernel_rfl
theorem T6 :B12.fits 113=true:=by kernel_rfl
def B13 :Go.Vm.C:=(.seq (.af [ga 6 .mv [kc 0]]) (.seq (.seq (.af [gm 7 0,gm 8 1,ga 9 (.bin .num .geq) [.t 7,.t 8],gm 10 9,gw 10 true 11 .mv [.t 0],gw 10 true 12 .mv [.t 2],gw 10 true 13 (.bin .num .leq) [.t 11,.t 12],ga 14 .pick [.t 10,.t 13,kb false]]) (.cond (.t 14) (.seq (.af [gm 15 0,gm 6 15]) .ret) .skip)) (.seq (.af [gm 16 0,gm 17 2,gm 18 1,ga 19 (.bin .num .sub) [.t 17,.t 18],ga 20 (.bin .num .add) [.t 19,kc 1],ga 21 (.bin .num .rem) [.t 16,.t 20],gm 0 21]) (.seq (.seq (.af [gm 22 0,ga 23 (.bin .num .lss) [.t 22,kc 0]]) (.cond (.t 23) (.af [gm 24 0,gm 25 2,ga 26 (.bin .num .add) [.t 24,.t 25],gm 27 1,ga 28 (.bin .num .sub) [.t 26,.t 27],ga 29 (.bin .num .add) [.t 28,kc 1],gm 0 29]) .skip)) (.seq (.af [gm 30 1,gm 31 0,ga 32 (.bin .num .add) [.t 30,.t 31],gm 6 32]) .ret)))))
abbrev F13 :Go.Vm.Fn:=⟨33,B13,[(.t 6)],true⟩
theorem T7 :bC Tryz.prog ob Tryz.f13 true=some F13:=by kernel_rfl
theorem T8 :B13.fits 33=true:=by kernel_rfl
def B14 :Go.Vm.C:=(.seq (.af [ga 2 .mv [kc 0]]) (.seq (.af [gm 3 0,ga 4 .bL [.t 3],ga 5 (.fa 65 7) [.t 4],ga 6 (.ld none) [.t 5],gm 2 6]) .ret))
abbrev F14 :Go.Vm.Fn:=⟨7,B14,[(.t 2)],true⟩
theorem T9 :bC Tryz.prog ob Tryz.f14 true=some F14:=by kernel_rfl
def OC :Go.Vm.C:=(.loop (.seq (.af [ga 28 (.bin .num .lss) [.t 27,kc 16]]) (.seq (.cond (.t 28) .skip (.exit 0)) (.seq (.block 1 (.seq (.af [gm 29 27,gm 6 29]) (.seq (.af [ga 30 (.call 42) [],ga 31 (.cG 96 [ki,ku,ki,(.s (.pointer none))] [0,1,3]) [kc 0,(.c (.s (.int .u64 1))),.t 30],ga 7 (.dj (some 96) (.st 96 [ki,ku,ki,(.s (.pointer none))])) [],gn (.aP (some 96)) [.t 7,.t 31]]) (.seq (.seq (.af [gm 32 6,gm 33 1,ga 34 (.call 43) [.t 32,.t 33],gm 35 0,ga 36 (.bin .num .eql) [.t 34,.t 35]]) (.cond (.t 36) (.af [ga 37 (.fa 96 0) [.t 7],gn (.aP none) [.t 37,kc 1]]) .skip)) (.bc [gl 0 2 (gm 38 5),gl 0 1 (gm 39 5),gl 0 1 (ga 40 .bL [.t 39]),gl 0 1 (ga 41 (.fa 92 2) [.t 40]),gl 0 1 (ga 42 (.ld none) [.t 41]),gl 0 0 (ga 43 (.ld (some 96)) [.t 7]),gl 0 1 (ga 44 (.jg (some 96) [(.st 96 [ki,ku,ki,(.s (.pointer none))])] [0]) [.t 43]),gl 1 2 (ga 45 (.app (some 96) 32) [.t 42,.t 44]),gl 2 2 (ga 46 .bL [.t 38]),gl 2 2 (ga 47 (.fa 92 2) [.t 46]),gl 2 3 (gn (.aP none) [.t 47,.t 45])]))))) (.af [ga 48 (.bin .num .add) [.t 27,kc 1],gm 27 48])))))
def OD :Go.Vm.C:=(.seq (.af [gm 49 5,gm 4 49]) .ret)
def B15 :Go.Vm.C:=(.seq (.af [ga 4 .mv [(.c (.s (.pointer none)))]]) (.seq (.seq (.af [gm 8 1,ga 9 (.bin .num .lss) [.t 8,kc 1],gm 10 9,gw 10 false 11 .mv [.t 1],gw 10 false 12 (.bin .num .gtr) [.t 11,kc 8],ga 13 .pick [.t 10,kb true,.t 12],gm 14 13,gw 14 false 15 .mv [.t 0],gw 14 false 16 (.bin .num .lss) [.t 15,kc 0],ga 17 .pick [.t 14,kb true,.t 16],gm 18 17,gw 18 false 19 .mv [.t 0],gw 18 false 20 .mv [.t 1],gw 18 false 21 (.bin .num .geq) [.t 19,.t 20],ga 22 .pick [.t 18,kb true,.t 21]]) (.cond (.t 22) (.seq (.af [ga 4 .mv [(.c (.s (.pointer none)))]]) .ret) .skip)) (.seq (.af [gm 23 0,gm 24 1,ga 25 (.cG 92 [ki,ki,(.aq true (some 96) [])] [0,1]) [.t 23,.t 24],ga 26 (.box (some 92)) [.t 25],gm 5 26]) (.seq (.seq (.af [ga 27 .mv [kc 0]]) (.block 0 OC)) OD))))
abbrev F15 :Go.Vm.Fn:=⟨50,B15,[(.t 4)],false⟩
theorem Ua :bC Tryz.prog ob Tryz.f15 false=some F15:=by kernel_rfl
theorem Ub :B15.fits 50=true:=by kernel_rfl
def B16 :Go.Vm.C:=(.seq (.af [ga 2 (.box (some 22)) [.t 0],ga 4 (.dj (some 22) (aK 22)) []]) (.seq (.af [ga 5 (.ld (some 22)) [.t 2],gm 6 1,ga 7 (.gI .u8) [.t 6],ga 8 (.jg none [(.s (.int .u8 0))] [0]) [.t 7],ga 9 (.call 44) [.t 5,.t 8],gn (.aP (some 22)) [.t 4,.t 9]]) .ret))
abbrev F16 :Go.Vm.Fn:=⟨10,B16,[(.cell 4 (some 22))],true⟩
theorem Uc :bC Tryz.prog ob Tryz.f16 true=some F16:=by kernel_rfl
theorem Ud :B16.fits 10=true:=by kernel_rfl
def B17 :Go.Vm.C:=(.seq (.af [ga 0 .mv [(.c (.s (.pointer none)))]]) (.seq (.af [ga 1 (.cG 102 [(.arr 101 [(.st 99 [(.s (.bool false)),(.aq true none [])]),(.st 99 [(.s (.bool false)),(.aq true none [])]),(.st 99 [(.s (.bool false)),(.aq true none [])]),(.st 99 [(.s (.bool false)),(.aq true none [])]),(.st 99 [(.s (.bool false)),(.aq true none [])]),(.st 99 [(.s (.bool false)),(.aq true none [])]),(.st 99 [(.s (.bool false)),(.aq true none [])]),(.st 99 [(.s (.bool false)),(.aq true none [])]),(.st 99 [(.s (.bool false)),(.aq true none [])]),(.st 99 [(.s (.bool false)),(.aq true none [])])]),(.arr 101 [(.st 99 [(.s (.bool false)),(.aq true none [])]),(.st 99 [(.s (.bool false)),(.aq true none [])]),(.st 99 [(.s (.bool false)),(.aq true none [])]),(.st 99 [(.s (.bool false)),(.aq true none [])]),(.st 99 [(.s (.bool false)),(.aq true none [])]),(.st 99 [(.s (.bool false)),(.aq true none [])]),(.st 99 [(.s (.bool false)),(.aq true none [])]),(.st 99 [(.s (.bool false)),(.aq true none [])]),(.st 99 [(.s (.bool false)),(.aq true none [])]),(.st 99 [(.s (.bool false)),(.aq true none [])])]),ki,ki,(.aq true none [])] []) [],ga 2 (.box (some 102)) [.t 1],gm 0 2]) .ret))
abbrev F17 :Go.Vm.Fn:=⟨3,B17,[(.t 0)],false⟩
theorem Ue :bC Tryz.prog ob Tryz.f17 false=some F17:=by kernel_rfl
theorem Uf :B17.fits 3=true:=by kernel_rfl
def He :Go.Vm.C:=(.loop (.seq (.seq (.af [gm 17 4,ga 18 .len [.t 17],ga 19 (.bin .num .rem) [.t 18,kc 8],ga 20 (.bin .num .neq) [.t 19,kc 0]]) (.cond (.t 20) .skip (.exit 0))) (.block 1 (.af [gm 21 4,ga 22 (.jg none [(.s (.int .u8 0))] [0]) [(.c (.s (.int .u8 0)))],ga 23 (.app none 1) [.t 21,.t 22],gm 4 23]))))
def Hf :Go.Vm.C:=(.loop (.seq (.seq (.af [gm 27 6,ga 28 (.bin .num .lss) [.t 27,kc 8]]) (.cond (.t 28) .skip (.exit 2))) (.seq (.block 3 (.seq (.af [gm 31 4,gm 32 5,ga 33 (.gI .u8) [.t 32],ga 34 (.jg none [(.s (.int .u8 0))] [0]) [.t 33],ga 35 (.app none 1) [.t 31,.t 34],gm 4 35]) (.af [gm 36 5,ga 37 (.bin .num .quo) [.t 36,(.c (.s (.int .u64 256)))],gm 5 37]))) (.af [gm 29 6,ga 30 (.bin .num .add) [.t 29,kc 1],gm 6 30]))))
def Hg :Go.Vm.C:=(.loop (.seq (.seq (.af [gm 38 7,gm 39 4,ga 40 .len [.t 39],ga 41 (.bin .num .lss) [.t 38,.t 40]]) (.cond (.t 41) .skip (.exit 4))) (.seq (.block 5 (.seq (.bc [gl 0 1 (gm 44 3),gl 0 1 (gm 45 3),gl 0 1 (ga 46 (.dz none) [.t 45,kc 0]),gl 0 1 (ga 47 (.ld none) [.t 46]),gl 0 0 (gm 48 4),gl 0 0 (gm 49 7),gl 0 0 (gm 50 7),gl 0 0 (ga 51 (.bin .num .add) [.t 50,kc 4]),gl 0 0 (ga 52 (.j2 none true true false) [.t 48,.t 49,.t 51]),gl 0 1 (ga 53 (.call 45) [.t 52]),gl 1 1 (ga 54 (.bin .num .xor) [.t 47,.t 53]),gl 1 1 (ga 55 (.dz none) [.t 44,kc 0]),gl 1 2 (gn (.aP none) [.t 55,.t 54])]) (.seq (.bc [gl 0 1 (gm 56 3),gl 0 1 (gm 57 3),gl 0 1 (ga 58 (.dz none) [.t 57,kc 3]),gl 0 1 (ga 59 (.ld none) [.t 58]),gl 0 0 (gm 60 4),gl 0 0 (gm 61 7),gl 0 0 (ga 62 (.bin .num .add) [.t 61,kc 4]),gl 0 0 (gm 63 7),gl 0 0 (ga 64 (.bin .num .add) [.t 63,kc 8]),gl 0 0 (ga 65 (.j2 none true true false) [.t 60,.t 62,.t 64]),gl 0 1 (ga 66 (.call 45) [.t 65]),gl 1 1 (ga 67 (.bin .num .xor) [.t 59,.t 66]),gl 1 1 (ga 68 (.dz none) [.t 56,kc 3]),gl 1 2 (gn (.aP none) [.t 68,.t 67])]) (.seq (.af [gm 69 3,ga 70 (.call 46) [.t 69]]) (.seq (.af [gm 71 3,ga 72 (.call 46) [.t 71]]) (.af [gm 73 3,ga 74 (.call 46) [.t 73]])))))) (.af [gm 42 7,ga 43 (.bin .num .add) [.t 42,kc 8],gm 7 43]))))
def Hh :Go.Vm.C:=(.loop (.seq (.seq (.af [gm 75 8,ga 76 (.bin .num .lss) [.t 75,kc 8]]) (.cond (.t 76) .skip (.exit 6))) (.seq (.block 7 (.af [gm 79 3,ga 80 (.call 46) [.t 79]])) (.af [gm 77 8,ga 78 (.bin .num .add) [.t 77,kc 1],gm 8 78]))))
def Hi :Go.Vm.C:=(.loop (.seq (.seq (.af [gm 81 10,ga 82 (.bin .num .lss) [.t 81,kc 16]]) (.cond (.t 82) .skip (.exit 8))) (.seq (.block 9 (.seq (.af [gm 85 10,gm 86 3,gm 87 10,ga 88 (.bin .num .quo) [.t 87,kc 4],ga 89 (.dz none) [.t 86,.t 88],ga 90 (.ld none) [.t 89],ga 91 (.gI .u8) [.t 90],ga 92 (.kG 22) [.t 9,.t 85],gn (.aP none) [.t 92,.t 91]]) (.af [gm 93 3,gm 94 10,ga 95 (.bin .num .quo) [.t 94,kc 4],gm 96 3,gm 97 10,ga 98 (.bin .num .quo) [.t 97,kc 4],ga 99 (.dz none) [.t 96,.t 98],ga 100 (.ld none) [.t 99],ga 101 (.bin .num .quo) [.t 100,(.c (.s (.int .u32 256)))],ga 102 (.dz none) [.t 93,.t 95],gn (.aP none) [.t 102,.t 101]]))) (.af [gm 83 10,ga 84 (.bin .num .add) [.t 83,kc 1],gm 10 84]))))
def Hj :Go.Vm.C:=(.seq (.af [ga 103 (.ld (some 22)) [.t 9],gn (.aP (some 22)) [.t 2,.t 103]]) .ret)
def Hk :Go.Vm.C:=(.seq (.af [ga 9 (.dj (some 22) (aK 22)) []]) (.seq (.seq (.af [ga 10 .mv [kc 0]]) (.block 8 Hi)) Hj))
def Hl :Go.Vm.C:=(.seq (.seq (.af [ga 8 .mv [kc 0]]) (.block 6 Hh)) Hk)
def Hm :Go.Vm.C:=(.seq (.seq (.af [ga 7 .mv [kc 0]]) (.block 4 Hg)) Hl)
def Hn :Go.Vm.C:=(.seq (.af [gm 24 0,ga 25 .len [.t 24],ga 26 (.gI .u64) [.t 25],gm 5 26]) (.seq (.seq (.af [ga 6 .mv [kc 0]]) (.block 2 Hf)) Hm))
def B18 :Go.Vm.C:=(.seq (.af [ga 2 (.dj (some 22) (aK 22)) []]) (.seq (.af [ga 11 (.jg none [(.s (.int .u32 0)),(.s (.int .u32 0)),(.s (.int .u32 0)),(.s (.int .u32 0))] [0,1,2,3]) [(.c (.s (.int .u32 1668047222))),(.c (.s (.int .u32 1768383858))),(.c (.s (.int .u32 1801807216))),(.c (.s (.int .u32 1935763045)))],gm 3 11]) (.seq (.af [ga 12 (.jg none [] []) [],gm 13 0,ga 14 (.app none 1) [.t 12,.t 13],ga 15 (.jg none [(.s (.int .u8 0))] [0]) [(.c (.s (.int .u8 128)))],ga 16 (.app none 1) [.t 14,.t 15],gm 4 16]) (.seq (.block 0 He) Hn))))
abbrev F18 :Go.Vm.Fn:=⟨104,B18,[(.cell 2 (some 22))],true⟩
theorem Ug :bC Tryz.prog ob Tryz.f18 true=some F18:=by kernel_rfl
theorem Uh :B18.fits 104=true:=by kernel_rfl
def B19 :Go.Vm.C:=(.seq (.af [ga 2 .mv [kc 0]]) (.seq (.seq (.af [gm 3 0,ga 4 .bL [.t 3],ga 5 (.fa 65 3) [.t 4],ga 6 (.ld none) [.t 5]]) (.block 0 (.seq (.af [ga 8 (.bin .num .eql) [.t 6,kc 2],gm 7 8]) (.cond (.t 7) (.seq (.af [ga 2 .mv [kc 29]]) .ret) (.seq (.af [ga 10 (.bin .num .eql) [.t 6,kc 3],gm 9 10]) (.cond (.t 9) (.seq (.af [ga 2 .mv [kc 28]]) .ret) .skip)))))) (.seq (.af [ga 2 .mv [kc 0]]) .ret)))
abbrev F19 :Go.Vm.Fn:=⟨11,B19,[(.t 2)],true⟩
theorem Ui :bC Tryz.prog ob Tryz.f19 true=some F19:=by kernel_rfl
theorem Uj :B19.fits 11=true:=by kernel_rfl
def B20 :Go.Vm.C:=(.seq (.af [ga 3 (.box (some 40)) [.t 1],ga 4 .mv [kc 0]]) (.seq (.seq (.af [ga 6 (.ld (some 40)) [.t 3],ga 7 (.call 47) [.t 6],ga 8 (.un .not) [.t 7]]) (.cond (.t 8) (.seq (.af [ga 4 .mv [kc 1]]) .ret) .skip)) (.seq (.seq (.af [ga 9 (.fa 40 0) [.t 3],ga 10 (.ld none) [.t 9]]) (.block 0 (.seq (.af [ga 12 (.bin .num .eql) [.t 10,kc 1],gm 11 12]) (.cond (.t 11) (.seq (.af [gm 13 0,ga 14 (.fa 40 4) [.t 3],ga 15 (.ld (some 37)) [.t 14],ga 16 (.call 48) [.t 13,.t 15],gm 4 16]) .ret) (.seq (.af [ga 18 (.bin .num .eql) [.t 10,kc 2],gm 17 18]) (.cond (.t 17) (.seq (.af [gm 19 0,ga 20 (.ld (some 40)) [.t 3],ga 21 (.call 49) [.t 19,.t 20],gm 4 21]) .ret) (.seq (.af [ga 23 (.bin .num .eql) [.t 10,kc 3],gm 22 23]) (.cond (.t 22) (.seq (.af [gm 24 0,ga 25 (.ld (some 40)) [.t 3],ga 26 (.call 50) [.t 24,.t 25],gm 4 26]) .ret) .skip)))))))) (.seq (.seq (.bc [gl 0 1 (gm 27 0),gl 0 1 (ga 28 .bL [.t 27]),gl 0 1 (ga 29 (.fa 92 2) [.t 28]),gl 0 1 (ga 30 (.ld none) [.t 29]),gl 0 1 (ga 31 (.fa 40 1) [.t 3]),gl 0 1 (ga 32 (.ld none) [.t 31]),gl 0 1 (ga 33 (.dz (some 96)) [.t 30,.t 32]),gl 0 1 (ga 34 (.ld (some 96)) [.t 33]),gl 0 1 (ga 5 (.dj (some 96) (.st 96 [ki,ku,ki,(.s (.pointer none))])) []),gl 1 2 (gn (.aP (some 96)) [.t 5,.t 34])]) (.seq (.af [ga 35 (.fa 96 0) [.t 5],ga 36 (.ld none) [.t 35],ga 37 (.bin .num .neq) [.t 36,kc 2],gm 38 37,gw 38 false 39 (.fa 96 1) [.t 5],gw 38 false 40 (.ld none) [.t 39],gw 38 false 41 (.fa 40 3) [.t 3],gw 38 false 42 (.ld none) [.t 41],gw 38 false 43 (.bin .num .neq) [.t 40,.t 42],ga 44 .pick [.t 38,kb true,.t 43]]) (.cond (.t 44) (.seq (.af [ga 4 .mv [kc 26]]) .ret) .skip))) (.seq (.af [ga 4 .mv [kc 0]]) .ret)))))
abbrev F20 :Go.Vm.Fn:=⟨45,B20,[(.t 4)],true⟩
theorem Uk :bC Tryz.prog ob Tryz.f20 true=some F20:=by kernel_rfl
theorem Ul :B20.fits 45=true:=by kernel_rfl
def B21 :Go.Vm.C:=(.seq (.af [ga 4 (.box (some 22)) [.t 0],ga 6 (.box (some 22)) [.t 2],ga 7 (.box (some 40)) [.t 3],ga 8 .mv [(.c (.aq true none []))],ga 9 .mv [kc 0]]) (.seq (.af [ga 13 (.ld (some 40)) [.t 7],ga 14 (.call 51) [.t 13],gm 12 14,ga 15 (.ext 0) [.t 12],ga 16 (.ext 1) [.t 12],gm 10 15,gm 11 16]) (.seq (.seq (.af [gm 17 11,ga 18 (.bin .num .neq) [.t 17,kc 0]]) (.cond (.t 18) (.seq (.af [gm 19 11,ga 8 .mv [(.c (.aq true none []))],gm 9 19]) .ret) .skip)) (.seq (.af [ga 20 (.ld (some 22)) [.t 4],gm 21 1,ga 22 (.mC 22 none false false) [.t 6],gm 23 10,ga 24 (.call 52) [.t 20,.t 21,.t 22,.t 23],gm 8 24,ga 9 .mv [kc 0]]) .ret))))
abbrev F21 :Go.Vm.Fn:=⟨25,B21,[(.t 8),(.t 9)],true⟩
theorem Um :bC Tryz.prog ob Tryz.f21 true=some F21:=by kernel_rfl
theorem Un :B21.fits 25=true:=by kernel_rfl
def B22 :Go.Vm.C:=(.seq (.af [ga 2 (.box (some 63)) [.t 0],ga 3 (.box (some 22)) [.t 1],ga 4 (.dj (some 63) (.st 63 [ku,ku,ku,(aK 22),ki])) [],ga 5 .mv [kb false]]) (.seq (.af [ga 7 (.ld (some 63)) [.t 2],ga 6 (.dj (some 63) (.st 63 [ku,ku,ku,(aK 22),ki])) [],gn (.aP (some 63)) [.t 6,.t 7]]) (.seq (.af [ga 8 (.fa 63 1) [.t 2],ga 9 (.ld none) [.t 8],ga 10 (.bin .num .add) [.t 9,(.c (.s (.int .u64 1)))],ga 11 (.fa 63 1) [.t 2],gn (.aP none) [.t 11,.t 10]]) (.seq (.af [ga 12 (.ld (some 22)) [.t 3],ga 13 (.fa 63 3) [.t 2],gn (.aP (some 22)) [.t 13,.t 12]]) (.seq (.af [ga 14 (.ld (some 63)) [.t 6],ga 15 (.ld (some 63)) [.t 2],ga 16 (.call 53) [.t 14,.t 15],ga 17 (.ext 0) [.t 16],ga 18 (.ext 1) [.t 16],gn (.aP (some 63)) [.t 4,.t 17],gm 5 18]) .ret)))))
abbrev F22 :Go.Vm.Fn:=⟨19,B22,[(.cell 4 (some 63)),(.t 5)],true⟩
theorem Uo :bC Tryz.prog ob Tryz.f22 true=some F22:=by kernel_rfl
theorem Up :B22.fits 19=true:=by kernel_rfl
def B23 :Go.Vm.C:=(.seq (.af [ga 2 (.box (some 22)) [.t 0],ga 4 (.dj (some 22) (aK 22)) []]) (.seq (.bc [gl 0 1 (ga 5 (.ld (some 22)) [.t 2]),gl 0 0 (gm 6 1),gl 0 1 (ga 7 (.call 55) [.t 6]),gl 1 2 (ga 8 (.call 54) [.t 5,.t 7]),gl 2 3 (gn (.aP (some 22)) [.t 4,.t 8])]) .ret))
abbrev F23 :Go.Vm.Fn:=⟨9,B23,[(.cell 4 (some 22))],true⟩
theorem Uq :bC Tryz.prog ob Tryz.f23 true=some F23:=by kernel_rfl
theorem Ur :B23.fits 9=true:=by kernel_rfl
def B24 :Go.Vm.C:=(.seq (.af [ga 6 .mv [kb false]]) (.seq (.seq (.af [gm 7 0,ga 8 (.call 26) [.t 7],ga 9 (.un .not) [.t 8]]) (.cond (.t 9) (.seq (.af [ga 6 .mv [kb false]]) .ret) .skip)) (.seq (.af [gm 10 0,ga 11 .bL [.t 10],ga 12 (.fa 65 5) [.t 11],ga 13 (.ld none) [.t 12],gm 14 1,gm 15 2,ga 16 (.call 56) [.t 13,.t 14,.t 15]]) (.seq (.seq (.af [gm 17 0,ga 18 (.call 26) [.t 17],ga 19 (.un .not) [.t 18]]) (.cond (.t 19) (.seq (.af [ga 6 .mv [kb false]]) .ret) .skip)) (.seq (.af [gm 20 0,ga 21 .bL [.t 20],ga 22 (.fa 65 5) [.t 21],ga 23 (.ld none) [.t 22],ga 24 (.call 57) [.t 23]]) (.seq (.af [ga 6 .mv [kb true]]) .ret))))))
abbrev F24 :Go.Vm.Fn:=⟨25,B24,[(.t 6)],false⟩
theorem Us :bC Tryz.prog ob Tryz.f24 false=some F24:=by kernel_rfl
theorem Ut :B24.fits 25=true:=by kernel_rfl
def B25 :Go.Vm.C:=(.seq (.af [ga 1 (.box (some 63)) [.t 0],ga 2 .mv [kc 0]]) (.seq (.af [ga 4 (.ld (some 63)) [.t 1],ga 5 (.call 28) [.t 4],gm 3 5]) (.seq (.seq (.af [gm 6 3,ga 7 (.bin .num .geq) [.t 6,kc 8]]) (.cond (.t 7) (.seq (.af [ga 2 .mv [kc (-1)]]) .ret) .skip)) (.seq (.af [gm 8 3,ga 9 (.bin .num .add) [kc 2,.t 8],gm 2 9]) .ret))))
abbrev F25 :Go.Vm.Fn:=⟨10,B25,[(.t 2)],true⟩
theorem Uu :bC Tryz.prog ob Tryz.f25 true=some F25:=by kernel_rfl
theorem Uv :B25.fits 10=true:=by kernel_rfl
def B26 :Go.Vm.C:=(.seq (.af [ga 2 .mv [kb false]]) (.seq (.seq (.af [gm 3 0,ga 4 .bL [.t 3],ga 5 (.fa 65 8) [.t 4],ga 6 (.ld none) [.t 5],ga 7 (.bin .num .eql) [.t 6,kc 0]]) (.cond (.t 7) (.seq (.af [gm 8 0,gm 9 0,ga 10 .bL [.t 9],ga 11 (.fa 65 9) [.t 10],ga 12 (.ld none) [.t 11],ga 13 (.call 58) [.t 8,.t 12]]) (.seq (.af [ga 2 .mv [kb false]]) .ret)) .skip)) (.seq (.seq (.af [gm 14 0,ga 15 .bL [.t 14],ga 16 (.fa 65 8) [.t 15],ga 17 (.ld none) [.t 16],ga 18 (.bin .num .gtr) [.t 17,kc 0]]) (.cond (.t 18) (.af [gm 19 0,ga 20 .bL [.t 19],ga 21 (.fa 65 8) [.t 20],ga 22 (.ld none) [.t 21],ga 23 (.bin .num .sub) [.t 22,kc 1],ga 24 .bL [.t 19],ga 25 (.fa 65 8) [.t 24],gn (.aP none) [.t 25,.t 23]]) .skip)) (.seq (.af [gm 26 0,ga 27 .bL [.t 26],ga 28 (.fa 65 7) [.t 27],ga 29 (.ld none) [.t 28],ga 30 (.bin .num .add) [.t 29,kc 1],ga 31 .bL [.t 26],ga 32 (.fa 65 7) [.t 31],gn (.aP none) [.t 32,.t 30]]) (.seq (.af [ga 2 .mv [kb true]]) .ret)))))
abbrev F26 :Go.Vm.Fn:=⟨33,B26,[(.t 2)],false⟩
theorem Uw :bC Tryz.prog ob Tryz.f26 false=some F26:=by kernel_rfl
theorem Ux :B26.fits 33=true:=by kernel_rfl
def B27 :Go.Vm.C:=(.seq (.af [ga 3 (.box (some 40)) [.t 1],ga 4 .mv [kc 0]]) (.seq (.seq (.af [gm 7 0,ga 8 (.ld (some 40)) [.t 3],ga 9 (.call 20) [.t 7,.t 8],gm 5 9]) (.seq (.af [gm 10 5,ga 11 (.bin .num .neq) [.t 10,kc 0]]) (.cond (.t 11) (.seq (.af [gm 12 5,gm 4 12]) .ret) .skip))) (.seq (.seq (.af [ga 13 (.fa 40 0) [.t 3],ga 14 (.ld none) [.t 13],ga 15 (.bin .num .eql) [.t 14,kc 1]]) (.cond (.t 15) (.seq (.bc [gl 0 1 (gm 16 0),gl 0 1 (ga 17 .bL [.t 16]),gl 0 1 (ga 18 (.fa 92 2) [.t 17]),gl 0 1 (ga 19 (.ld none) [.t 18]),gl 0 0 (ga 20 (.fa 40 4) [.t 3]),gl 0 0 (ga 21 (.fa 37 0) [.t 20]),gl 0 0 (ga 22 (.ld (some 28)) [.t 21]),gl 0 1 (ga 23 (.call 59) [.t 22]),gl 1 1 (ga 24 (.dz (some 96)) [.t 19,.t 23]),gl 1 1 (ga 25 (.fa 96 3) [.t 24]),gl 1 1 (ga 26 (.ld none) [.t 25]),gl 0 1 (ga 27 (.fa 40 4) [.t 3]),gl 0 1 (ga 28 (.ld (some 37)) [.t 27]),gl 1 2 (ga 29 (.call 60) [.t 26,.t 28]),gl 2 2 (gm 4 29)]) .ret) .skip)) (.seq (.af [gm 30 0,ga 31 .bL [.t 30],ga 32 (.fa 92 2) [.t 31],ga 33 (.ld none) [.t 32],ga 34 (.fa 40 1) [.t 3],ga 35 (.ld none) [.t 34],ga 36 (.dz (some 96)) [.t 33,.t 35],gm 6 36]) (.seq (.af [gm 37 6,ga 38 (.fa 40 3) [.t 3],ga 39 (.ld none) [.t 38],ga 40 .bL [.t 37],ga 41 (.fa 96 1) [.t 40],gn (.aP none) [.t 41,.t 39]]) (.seq (.seq (.af [ga 42 (.fa 40 0) [.t 3],ga 43 (.ld none) [.t 42]]) (.block 0 (.seq (.af [ga 55 (.bin .num .eql) [.t 43,kc 2],gm 54 55]) (.cond (.t 54) (.bc [gl 0 0 (gm 56 6),gl 0 1 (gm 57 6),gl 0 1 (ga 58 (.fa 40 2) [.t 3]),gl 0 1 (ga 59 (.ld none) [.t 58]),gl 0 0 (ga 60 .bL [.t 56]),gl 0 0 (ga 61 (.fa 96 0) [.t 60]),gl 0 1 (gn (.aP none) [.t 61,kc 2]),gl 1 1 (ga 62 .bL [.t 57]),gl 1 1 (ga 63 (.fa 96 2) [.t 62]),gl 1 2 (gn (.aP none) [.t 63,.t 59])]) (.seq (.af [ga 65 (.bin .num .eql) [.t 43,kc 3],gm 64 65]) (.cond (.t 64) (.seq (.af [gm 66 6,gm 67 6,ga 68 .bL [.t 66],ga 69 (.fa 96 0) [.t 68],gn (.aP none) [.t 69,kc 1],ga 70 .bL [.t 67],ga 71 (.fa 96 2) [.t 70],gn (.aP none) [.t 71,kc 0]]) (.seq (.af [gm 72 6,ga 73 .bL [.t 72],ga 74 (.fa 96 3) [.t 73],ga 75 (.ld none) [.t 74],ga 76 (.fa 40 5) [.t 3],ga 77 (.ld none) [.t 76],ga 78 (.call 61) [.t 75,.t 77],gm 4 78]) .ret)) (.af [gm 44 6,gm 45 6,gm 46 6,ga 47 (.call 42) [],ga 48 .bL [.t 44],ga 49 (.fa 96 0) [.t 48],gn (.aP none) [.t 49,kc 0],ga 50 .bL [.t 45],ga 51 (.fa 96 2) [.t 50],gn (.aP none) [.t 51,kc 0],ga 52 .bL [.t 46],ga 53 (.fa 96 3) [.t 52],gn (.aP none) [.t 53,.t 47]]))))))) (.seq (.af [ga 4 .mv [kc 0]]) .ret)))))))
abbrev F27 :Go.Vm.Fn:=⟨79,B27,[(.t 4)],false⟩
theorem Uy :bC Tryz.prog ob Tryz.f27 false=some F27:=by kernel_rfl
theorem Uz :B27.fits 79=true:=by kernel_rfl
def B28 :Go.Vm.C:=(.seq (.af [ga 1 (.box (some 63)) [.t 0],ga 2 .mv [kc 0]]) (.seq (.seq (.af [ga 3 (.ld (some 63)) [.t 1],ga 4 (.call 62) [.t 3],ga 5 (.un .not) [.t 4]]) (.cond (.t 5) (.seq (.af [ga 2 .mv [kc 0]]) .ret) .skip)) (.seq (.af [ga 6 (.fa 63 1) [.t 1],ga 7 (.ld none) [.t 6],ga 8 (.fa 63 2) [.t 1],ga 9 (.ld none) [.t 8],ga 10 (.bin .num .sub) [.t 7,.t 9],ga 11 (.gI .i64) [.t 10],gm 2 11]) .ret)))
abbrev F28 :Go.Vm.Fn:=⟨12,B28,[(.t 2)],true⟩
theorem UA :bC Tryz.prog ob Tryz.f28 true=some F28:=by kernel_rfl
theorem UB :B28.fits 12=true:=by kernel_rfl
def B29 :Go.Vm.C:=(.seq (.af [ga 2 .mv [kb false]]) (.seq (.bc [gl 0 1 (gm 6 0),gl 0 1 (ga 7 .bL [.t 6]),gl 0 1 (ga 8 (.fa 65 2) [.t 7]),gl 0 1 (ga 9 (.ld (some 22)) [.t 8]),gl 0 1 (gm 10 0),gl 0 1 (ga 11 .bL [.t 10]),gl 0 1 (ga 12 (.fa 65 6) [.t 11]),gl 0 1 (ga 13 (.ld (some 63)) [.t 12]),gl 0 0 (gm 14 0),gl 0 0 (ga 15 .bL [.t 14]),gl 0 0 (ga 16 (.fa 65 4) [.t 15]),gl 0 0 (ga 17 (.ld none) [.t 16]),gl 0 1 (ga 18 (.call 64) [.t 17]),gl 1 2 (ga 19 (.call 63) [.t 9,.t 13,.t 18]),gl 2 2 (gm 5 19),gl 2 2 (ga 20 (.ext 0) [.t 5]),gl 2 2 (ga 21 (.ext 1) [.t 5]),gl 2 2 (gm 3 20),gl 2 2 (gm 4 21)]) (.seq (.seq (.af [gm 22 0,gm 23 0,ga 24 .bL [.t 23],ga 25 (.fa 65 6) [.t 24],ga 26 (.ld (some 63)) [.t 25],ga 27 (.call 65) [.t 26],gm 28 3,ga 29 (.call 24) [.t 22,.t 27,.t 28],ga 30 (.un .not) [.t 29],gm 31 30,gw 31 false 32 .mv [.t 0],gw 31 false 33 (.call 26) [.t 32],gw 31 false 34 (.un .not) [.t 33],ga 35 .pick [.t 31,kb true,.t 34]]) (.cond (.t 35) (.seq (.af [ga 2 .mv [kb false]]) .ret) .skip)) (.seq (.bc [gl 0 2 (gm 37 0),gl 0 1 (gm 38 0),gl 0 1 (ga 39 .bL [.t 38]),gl 0 1 (ga 40 (.fa 65 6) [.t 39]),gl 0 1 (ga 41 (.ld (some 63)) [.t 40]),gl 0 0 (gm 42 3),gl 0 1 (ga 43 (.call 67) [.t 42]),gl 1 2 (ga 44 (.call 66) [.t 41,.t 43]),gl 2 2 (gm 36 44),gl 2 2 (ga 45 (.ext 0) [.t 36]),gl 2 3 (ga 46 (.ext 1) [.t 36]),gl 2 2 (ga 47 .bL [.t 37]),gl 2 2 (ga 48 (.fa 65 6) [.t 47]),gl 2 3 (gn (.aP (some 63)) [.t 48,.t 45])]) (.seq (.af [ga 2 .mv [kb true]]) .ret)))))
abbrev F29 :Go.Vm.Fn:=⟨49,B29,[(.t 2)],false⟩
theorem UC :bC Tryz.prog ob Tryz.f29 false=some F29:=by kernel_rfl
theorem UD :B29.fits 49=true:=by kernel_rfl
def OE :Go.Vm.C:=(.loop (.seq (.seq (.af [gm 6 4,ga 7 (.bin .num .geq) [.t 6,kc 0]]) (.cond (.t 7) .skip (.exit 0))) (.seq (.block 1 (.seq (.af [gm 10 3,gm 11 4,gm 12 0,ga 13 (.gI .u8) [.t 12],ga 14 (.dz none) [.t 10,.t 11],gn (.aP none) [.t 14,.t 13]]) (.af [gm 15 0,ga 16 (.bin .num .quo) [.t 15,(.c (.s (.int .u64 256)))],gm 0 16]))) (.af [gm 8 4,ga 9 (.bin .num .sub) [.t 8,kc 1],gm 4 9]))))
def OF :Go.Vm.C:=(.seq (.af [gm 17 3,gm 2 17]) .ret)
def B30 :Go.Vm.C:=(.seq (.af [ga 2 .mv [(.c (.aq true none []))]]) (.seq (.af [ga 5 (.mks none (.s (.int .u8 0))) [kc 8,kc 8],gm 3 5]) (.seq (.seq (.af [ga 4 .mv [kc 7]]) (.block 0 OE)) OF)))
abbrev F30 :Go.Vm.Fn:=⟨18,B30,[(.t 2)],false⟩
theorem UE :bC Tryz.prog ob Tryz.f30 false=some F30:=by kernel_rfl
theorem UF :B30.fits 18=true:=by kernel_rfl
def B31 :Go.Vm.C:=(.seq (.af [ga 4 (.box (some 22)) [.t 0],ga 8 .mv [(.c (.aq true none []))]]) (.seq (.seq (.af [gm 9 3,ga 10 .len [.t 9],ga 11 (.bin .num .gtr) [.t 10,kc 8184],gm 12 11,gw 12 false 13 .mv [.t 2],gw 12 false 14 .len [.t 13],gw 12 false 15 (.bin .num .gtr) [.t 14,kc 8192],ga 16 .pick [.t 12,kb true,.t 15]]) (.cond (.t 16) (.seq (.af [ga 8 .mv [(.c (.aq true none []))]]) .ret) .skip)) (.seq (.bc [gl 0 0 (ga 17 (.ld (some 22)) [.t 4]),gl 0 0 (gm 18 1),gl 0 0 (gm 19 3),gl 0 1 (ga 20 (.call 68) [.t 17,.t 18,.t 19]),gl 0 1 (ga 21 (.ld (some 22)) [.t 4]),gl 0 1 (gm 22 1),gl 0 1 (gm 23 2),gl 0 1 (gm 24 3),gl 1 2 (ga 25 (.call 69) [.t 21,.t 22,.t 23,.t 24]),gl 2 3 (ga 26 (.app none 1) [.t 20,.t 25]),gl 3 3 (gm 8 26)]) .ret)))
abbrev F31 :Go.Vm.Fn:=⟨27,B31,[(.t 8)],true⟩
theorem UG :bC Tryz.prog ob Tryz.f31 true=some F31:=by kernel_rfl
theorem UH :B31.fits 27=true:=by kernel_rfl
def B32 :Go.Vm.C:=(.seq (.af [ga 2 (.box (some 22)) [.t 0],ga 4 (.dj (some 22) (aK 22)) []]) (.seq (.bc [gl 0 1 (ga 5 (.ld (some 22)) [.t 2]),gl 0 0 (gm 6 1),gl 0 1 (ga 7 (.call 30) [.t 6]),gl 1 2 (ga 8 (.call 70) [.t 5,.t 7]),gl 2 3 (gn (.aP (some 22)) [.t 4,.t 8])]) .ret))
abbrev F32 :Go.Vm.Fn:=⟨9,B32,[(.cell 4 (some 22))],true⟩
theorem UI :bC Tryz.prog ob Tryz.f32 true=some F32:=by kernel_rfl
theorem UJ :B32.fits 9=true:=by kernel_rfl
def B33 :Go.Vm.C:=(.seq (.af [ga 2 .mv [kc 0]]) (.seq (.af [gm 3 0,ga 4 .bL [.t 3],ga 5 (.fa 65 3) [.t 4],ga 6 (.ld none) [.t 5],gm 2 6]) .ret))
abbrev F33 :Go.Vm.Fn:=⟨7,B33,[(.t 2)],true⟩
theorem UK :bC Tryz.prog ob Tryz.f33 true=some F33:=by kernel_rfl
theorem UL :B33.fits 7=true:=by kernel_rfl
def B34 :Go.Vm.C:=(.seq (.af [ga 2 .mv [(.c (.s (.pointer none)))]]) (.seq (.seq (.af [gm 3 0,ga 4 .bL [.t 3],ga 5 (.fa 65 3) [.t 4],ga 6 (.ld none) [.t 5],ga 7 (.bin .num .neq) [.t 6,kc 1]]) (.cond (.t 7) (.seq (.af [ga 2 .mv [(.c (.s (.pointer none)))]]) .ret) .skip)) (.seq (.af [gm 8 0,ga 9 .bL [.t 8],ga 10 (.fa 65 4) [.t 9],ga 11 (.ld none) [.t 10],ga 12 (.call 71) [.t 11],gm 2 12]) .ret)))
abbrev F34 :Go.Vm.Fn:=⟨13,B34,[(.t 2)],false⟩
theorem UM :bC Tryz.prog ob Tryz.f34 false=some F34:=by kernel_rfl
theorem UN :B34.fits 13=true:=by kernel_rfl
def B35 :Go.Vm.C:=(.seq (.af [ga 2 .mv [kc 0],ga 3 .mv [kc 0]]) (.seq (.af [gm 4 0,ga 5 .bL [.t 4],ga 6 (.fa 92 0) [.t 5],ga 7 (.ld none) [.t 6],gm 8 0,ga 9 .bL [.t 8],ga 10 (.fa 92 1) [.t 9],ga 11 (.ld none) [.t 10],gm 2 7,gm 3 11]) .ret))
abbrev F35 :Go.Vm.Fn:=⟨12,B35,[(.t 2),(.t 3)],true⟩
theorem UO :bC Tryz.prog ob Tryz.f35 true=some F35:=by kernel_rfl
theorem UP :B35.fits 12=true:=by kernel_rfl
def B36 :Go.Vm.C:=(.seq (.af [ga 3 (.box (some 22)) [.t 0],ga 6 (.dj (some 33) (.st 33 [ki,(z4 28),(aK 22),kx,ki,(aK 22),(aK 22),ki,ku])) [],ga 7 .mv [kc 0]]) (.seq (.af [ga 11 (.ld (some 22)) [.t 3],gm 12 1,ga 13 (.gI .u8) [.t 12],gm 14 2,ga 15 (.call 72) [.t 11,.t 13,.t 14],gm 10 15,ga 16 (.ext 0) [.t 10],ga 17 (.ext 1) [.t 10],gm 8 16,gm 9 17]) (.seq (.seq (.af [gm 18 9,ga 19 (.bin .num .neq) [.t 18,kc 0]]) (.cond (.t 19) (.seq (.af [ga 20 (.cG 33 [ki,(z4 28),(aK 22),kx,ki,(aK 22),(aK 22),ki,ku] []) [],gm 21 9,gn (.aP (some 33)) [.t 6,.t 20],gm 7 21]) .ret) .skip)) (.seq (.af [gm 22 8,ga 23 (.call 73) [.t 22],ga 24 (.ext 0) [.t 23],ga 25 (.ext 1) [.t 23],gn (.aP (some 33)) [.t 6,.t 24],gm 7 25]) .ret))))
abbrev F36 :Go.Vm.Fn:=⟨26,B36,[(.cell 6 (some 33)),(.t 7)],true⟩
theorem UQ :bC Tryz.prog ob Tryz.f36 true=some F36:=by kernel_rfl
theorem UR :B36.fits 26=true:=by kernel_rfl
def B37 :Go.Vm.C:=(.seq (.af [ga 3 (.box (some 33)) [.t 1],ga 4 (.dj (some 37) (.st 37 [(z4 28),ku,(aK 22),kx,ki,ki,(aK 22),(.s (.bool false)),(.s (.bool false))])) [],ga 5 (.dj (some 45) (.st 45 [ki,(z4 28),ku,ki,kx,ki,ku])) [],ga 6 .mv [kb false]]) (.seq (.seq (.af [gm 17 0,ga 18 (.bin .ptr .eql) [.t 17,(.c (.s (.pointer none)))],gm 19 18,gw 19 false 20 (.ld (some 33)) [.t 3],gw 19 false 21 (.call 74) [.t 20],gw 19 false 22 (.un .not) [.t 21],ga 23 .pick [.t 19,kb true,.t 22]]) (.cond (.t 23) (.seq (.af [ga 24 (.cG 37 [(z4 28),ku,(aK 22),kx,ki,ki,(aK 22),(.s (.bool false)),(.s (.bool false))] []) [],ga 25 (.cG 45 [ki,(z4 28),ku,ki,kx,ki,ku] [0]) [kc 12],gn (.aP (some 37)) [.t 4,.t 24],gn (.aP (some 45)) [.t 5,.t 25],ga 6 .mv [kb false]]) .ret) .skip)) (.seq (.af [ga 26 (.fa 33 1) [.t 3],ga 27 (.ld (some 28)) [.t 26],ga 28 (.call 59) [.t 27],gm 7 28]) (.seq (.af [ga 29 (.fa 33 1) [.t 3],ga 30 (.ld (some 28)) [.t 29],ga 31 (.fa 33 7) [.t 3],ga 32 (.ld none) [.t 31],ga 33 (.fa 33 8) [.t 3],ga 34 (.ld none) [.t 33],ga 35 (.cG 45 [ki,(z4 28),ku,ki,kx,ki,ku] [1,5,6]) [.t 30,.t 32,.t 34],ga 8 (.dj (some 45) (.st 45 [ki,(z4 28),ku,ki,kx,ki,ku])) [],gn (.aP (some 45)) [.t 8,.t 35]]) (.seq (.seq (.af [gm 37 0,gm 38 7,ga 39 (.call 75) [.t 37,.t 38],gm 36 39,ga 40 (.ext 0) [.t 36],ga 41 (.ext 1) [.t 36],ga 42 (.ext 2) [.t 36],gm 9 40,gm 10 41,gm 11 42]) (.seq (.af [gm 43 9]) (.block 0 (.seq (.af [ga 45 (.bin .num .eql) [.t 43,kc 0],gm 44 45]) (.cond (.t 44) (.seq (.af [ga 46 (.fa 45 0) [.t 8],gn (.aP none) [.t 46,kc 26]]) (.seq (.bc [gl 0 0 (ga 47 (.cG 37 [(z4 28),ku,(aK 22),kx,ki,ki,(aK 22),(.s (.bool false)),(.s (.bool false))] []) []),gl 0 1 (ga 48 (.ld (some 45)) [.t 8]),gl 0 1 (gn (.aP (some 37)) [.t 4,.t 47]),gl 1 2 (gn (.aP (some 45)) [.t 5,.t 48]),gl 2 2 (ga 6 .mv [kb false])]) .ret)) (.seq (.af [ga 50 (.bin .num .eql) [.t 43,kc 2],gm 49 50]) (.cond (.t 49) (.seq (.af [ga 51 (.fa 45 0) [.t 8],gn (.aP none) [.t 51,kc 27]]) (.seq (.bc [gl 0 0 (ga 52 (.cG 37 [(z4 28),ku,(aK 22),kx,ki,ki,(aK 22),(.s (.bool false)),(.s (.bool false))] []) []),gl 0 1 (ga 53 (.ld (some 45)) [.t 8]),gl 0 1 (gn (.aP (some 37)) [.t 4,.t 52]),gl 1 2 (gn (.aP (some 45)) [.t 5,.t 53]),gl 2 2 (ga 6 .mv [kb false])]) .ret)) .skip))))))) (.seq (.af [gm 55 0,ga 56 (.fa 33 1) [.t 3],ga 57 (.ld (some 28)) [.t 56],ga 58 (.call 76) [.t 55,.t 57],gm 54 58,ga 59 (.ext 0) [.t 54],ga 60 (.ext 1) [.t 54],ga 12 (.dj (some 37) (.st 37 [(z4 28),ku,(aK 22),kx,ki,ki,(aK 22),(.s (.bool false)),(.s (.bool false))])) [],gn (.aP (some 37)) [.t 12,.t 59],gm 13 60]) (.seq (.af [ga 62 (.ld (some 37)) [.t 12],ga 63 (.ld (some 33)) [.t 3],ga 64 (.call 77) [.t 62,.t 63],gm 61 64,ga 65 (.ext 0) [.t 61],ga 66 (.ext 1) [.t 61],ga 67 (.ext 2) [.t 61],ga 14 (.dj (some 37) (.st 37 [(z4 28),ku,(aK 22),kx,ki,ki,(aK 22),(.s (.bool false)),(.s (.bool false))])) [],ga 15 (.dj (some 45) (.st 45 [ki,(z4 28),ku,ki,kx,ki,ku])) [],gn (.aP (some 37)) [.t 14,.t 65],gn (.aP (some 45)) [.t 15,.t 66],gm 16 67]) (.seq (.seq (.af [gm 68 16,gm 69 68,gw 69 true 70 .mv [.t 13],gw 69 true 71 (.un .not) [.t 70],ga 72 .pick [.t 69,.t 71,kb false],gm 73 72,gw 73 true 74 .mv [.t 0],gw 73 true 75 .mv [.t 7],gw 73 true 76 (.call 78) [.t 74,.t 75],gw 73 true 77 .len [.t 76],gw 73 true 78 (.bin .num .geq) [.t 77,kc 4],ga 79 .pick [.t 73,.t 78,kb false]]) (.cond (.t 79) (.seq (.af [ga 80 (.fa 45 0) [.t 8],gn (.aP none) [.t 80,kc 13]]) (.seq (.bc [gl 0 0 (ga 81 (.cG 37 [(z4 28),ku,(aK 22),kx,ki,ki,(aK 22),(.s (.bool false)),(.s (.bool false))] []) []),gl 0 1 (ga 82 (.ld (some 45)) [.t 8]),gl 0 1 (gn (.aP (some 37)) [.t 4,.t 81]),gl 1 2 (gn (.aP (some 45)) [.t 5,.t 82]),gl 2 2 (ga 6 .mv [kb false])]) .ret)) .skip)) (.seq (.bc [gl 0 0 (ga 83 (.ld (some 37)) [.t 14]),gl 0 1 (ga 84 (.ld (some 45)) [.t 15]),gl 0 2 (gm 85 16),gl 0 1 (gn (.aP (some 37)) [.t 4,.t 83]),gl 1 2 (gn (.aP (some 45)) [.t 5,.t 84]),gl 2 2 (gm 6 85)]) .ret)))))))))
abbrev F37 :Go.Vm.Fn:=⟨86,B37,[(.cell 4 (some 37)),(.cell 5 (some 45)),(.t 6)],true⟩
theorem US :bC Tryz.prog ob Tryz.f37 true=some F37:=by kernel_rfl
theorem UT :B37.fits 86=true:=by kernel_rfl
def B38 :Go.Vm.C:=(.seq (.af [ga 2 (.dj (some 63) (.st 63 [ku,ku,ku,(aK 22),ki])) []]) (.seq (.af [gm 3 0,ga 4 .bL [.t 3],ga 5 (.fa 65 6) [.t 4],ga 6 (.ld (some 63)) [.t 5],gn (.aP (some 63)) [.t 2,.t 6]]) .ret))
abbrev F38 :Go.Vm.Fn:=⟨7,B38,[(.cell 2 (some 63))],true⟩
theorem UU :bC Tryz.prog ob Tryz.f38 true=some F38:=by kernel_rfl
theorem UW :B38.fits 7=true:=by kernel_rfl
def B39 :Go.Vm.C:=(.seq (.af [ga 2 (.box (some 33)) [.t 0],ga 3 (.box (some 45)) [.t 1],ga 4 .mv [(.c (.aq true none []))],ga 5 .mv [kc 0]]) (.seq (.af [ga 9 (.ld (some 45)) [.t 3],ga 10 (.call 79) [.t 9],gm 8 10,ga 11 (.ext 0) [.t 8],ga 12 (.ext 1) [.t 8],gm 6 11,gm 7 12]) (.seq (.seq (.af [gm 13 7,ga 14 (.bin .num .neq) [.t 13,kc 0]]) (.cond (.t 14) (.seq (.af [gm 15 7,ga 4 .mv [(.c (.aq true none []))],gm 5 15]) .ret) .skip)) (.seq (.af [ga 16 (.fa 33 6) [.t 2],ga 17 (.ld (some 22)) [.t 16],ga 18 (.fa 33 8) [.t 2],ga 19 (.ld none) [.t 18],ga 20 (.fa 33 7) [.t 2],ga 21 (.ld none) [.t 20],ga 22 (.bin .num .add) [kc 128,.t 21],ga 23 (.gI .u8) [.t 22],gm 24 6,ga 25 (.call 80) [.t 17,.t 19,.t 23,.t 24],ga 26 (.ext 0) [.t 25],ga 27 (.ext 1) [.t 25],gm 4 26,gm 5 27]) .ret))))
abbrev F39 :Go.Vm.Fn:=⟨28,B39,[(.t 4),(.t 5)],true⟩
theorem UX :bC Tryz.prog ob Tryz.f39 true=some F39:=by kernel_rfl
theorem UY :B39.fits 28=true:=by kernel_rfl
def B40 :Go.Vm.C:=(.seq (.af [ga 3 (.box (some 22)) [.t 0],ga 6 .mv [(.c (.aq true none []))],ga 7 .mv [kc 0]]) (.seq (.seq (.af [gm 9 2,ga 10 .len [.t 9],ga 11 (.bin .num .lss) [.t 10,kc 16]]) (.cond (.t 11) (.seq (.af [ga 6 .mv [(.c (.aq true none []))],ga 7 .mv [kc 12]]) .ret) .skip)) (.seq (.seq (.af [gm 12 2,ga 13 .len [.t 12],ga 14 (.bin .num .gtr) [.t 13,kc 8192]]) (.cond (.t 14) (.seq (.af [ga 6 .mv [(.c (.aq true none []))],ga 7 .mv [kc 3]]) .ret) .skip)) (.seq (.af [gm 15 2,ga 16 (.call 81) [.t 15],gm 8 16]) (.seq (.bc [gl 0 0 (ga 17 (.ld (some 22)) [.t 3]),gl 0 0 (gm 18 8),gl 0 0 (ga 19 (.eB 32) [.t 17,.t 18]),gl 0 0 (gm 20 8),gl 0 0 (gm 21 1),gl 0 0 (ga 22 (.uY none [(.s (.int .u8 0))] [0]) [.t 21]),gl 0 0 (gm 23 2),gl 0 0 (ga 24 (.j2 none true false false) [.t 23,kc 8]),gl 0 0 (ga 25 (.eB 82) [.t 19,.t 20,.t 22,.t 24]),gl 0 0 (ga 26 (.ext 0) [.t 25]),gl 0 0 (ga 27 (.ext 1) [.t 25]),gl 0 0 (gm 6 26),gl 0 0 (gm 7 27)]) .ret)))))
abbrev F40 :Go.Vm.Fn:=⟨28,B40,[(.t 6),(.t 7)],true⟩
theorem UZ :bC Tryz.prog ob Tryz.f40 true=some F40:=by kernel_rfl
theorem U0 :B40.fits 28=true:=by kernel_rfl
def B41 :Go.Vm.C:=(.seq (.af [ga 2 (.dj (some 45) (.st 45 [ki,(z4 28),ku,ki,kx,ki,ku])) [],ga 3 .mv [kb false]]) (.seq (.af [gm 7 0,ga 8 (.cG 132 [(.aq true none []),(.s (.bool false))] [0]) [.t 7],ga 9 (.box (some 132)) [.t 8],gm 4 9]) (.seq (.af [gm 10 4,ga 11 (.call 83) [.t 10],ga 12 (.cG 45 [ki,(z4 28),ku,ki,kx,ki,ku] [0]) [.t 11],ga 5 (.dj (some 45) (.st 45 [ki,(z4 28),ku,ki,kx,ki,ku])) [],gn (.aP (some 45)) [.t 5,.t 12]]) (.seq (.af [gm 13 4,ga 14 (.call 84) [.t 13],ga 15 (.fa 45 1) [.t 5],gn (.aP (some 28)) [.t 15,.t 14]]) (.seq (.af [gm 16 4,ga 17 (.call 85) [.t 16],ga 18 (.fa 45 2) [.t 5],gn (.aP none) [.t 18,.t 17]]) (.seq (.af [gm 19 4,ga 20 (.call 83) [.t 19],ga 21 (.fa 45 3) [.t 5],gn (.aP none) [.t 21,.t 20]]) (.seq (.af [gm 22 4,ga 23 (.call 83) [.t 22],ga 24 (.fa 45 5) [.t 5],gn (.aP none) [.t 24,.t 23]]) (.seq (.af [gm 25 4,ga 26 (.call 85) [.t 25],ga 27 (.fa 45 6) [.t 5],gn (.aP none) [.t 27,.t 26]]) (.seq (.af [gm 28 4,ga 29 (.call 83) [.t 28],gm 6 29]) (.seq (.af [gm 30 4,gm 31 6,ga 32 (.call 86) [.t 30,.t 31],ga 33 (.fa 45 4) [.t 5],gn (.aP none) [.t 33,.t 32]]) (.seq (.seq (.af [gm 34 4,ga 35 .bL [.t 34],ga 36 (.fa 132 1) [.t 35],ga 37 (.ld none) [.t 36],gm 38 37,gw 38 false 39 .mv [.t 4],gw 38 false 40 .bL [.t 39],gw 38 false 41 (.fa 132 0) [.t 40],gw 38 false 42 (.ld none) [.t 41],gw 38 false 43 .len [.t 42],gw 38 false 44 (.bin .num .gtr) [.t 43,kc 0],ga 45 .pick [.t 38,kb true,.t 44],gm 46 45,gw 46 false 47 (.ld (some 45)) [.t 5],gw 46 false 48 (.call 87) [.t 47],gw 46 false 49 (.un .not) [.t 48],ga 50 .pick [.t 46,kb true,.t 49]]) (.cond (.t 50) (.seq (.af [ga 51 (.cG 45 [ki,(z4 28),ku,ki,kx,ki,ku] []) [],gn (.aP (some 45)) [.t 2,.t 51],ga 3 .mv [kb false]]) .ret) .skip)) (.seq (.af [ga 52 (.ld (some 45)) [.t 5],gn (.aP (some 45)) [.t 2,.t 52],ga 3 .mv [kb true]]) .ret))))))))))))
abbrev F41 :Go.Vm.Fn:=⟨53,B41,[(.cell 2 (some 45)),(.t 3)],true⟩
theorem U1 :bC Tryz.prog ob Tryz.f41 true=some F41:=by kernel_rfl
theorem U2 :B41.fits 53=true:=by kernel_rfl
def B42 :Go.Vm.C:=(.seq (.af [ga 0 .mv [(.c (.s (.pointer none)))]]) (.seq (.af [ga 1 (.cG 138 [(.aq true (some 37) [])] []) [],ga 2 (.box (some 138)) [.t 1],gm 0 2]) .ret))
abbrev F42 :Go.Vm.Fn:=⟨3,B42,[(.t 0)],false⟩
theorem U3 :bC Tryz.prog ob Tryz.f42 false=some F42:=by kernel_rfl
theorem U4 :B42.fits 3=true:=by kernel_rfl
def B43 :Go.Vm.C:=(.seq (.af [ga 4 .mv [kc 0]]) (.seq (.seq (.af [gm 5 0,ga 6 (.call 88) [.t 5],ga 7 (.un .not) [.t 6]]) (.cond (.t 7) (.seq (.af [ga 4 .mv [kc 0]]) .ret) .skip)) (.seq (.af [gm 8 0,gm 9 1,ga 10 .min [.t 9,kc 8],ga 11 .max [kc 1,.t 10],ga 12 (.bin .num .rem) [.t 8,.t 11],gm 4 12]) .ret)))
abbrev F43 :Go.Vm.Fn:=⟨13,B43,[(.t 4)],true⟩
theorem U5 :bC Tryz.prog ob Tryz.f43 true=some F43:=by kernel_rfl
theorem U6 :B43.fits 13=true:=by kernel_rfl
def B44 :Go.Vm.C:=(.seq (.af [ga 2 (.box (some 22)) [.t 0],ga 4 (.dj (some 22) (aK 22)) []]) (.seq (.af [ga 5 (.mC 22 none false false) [.t 2],ga 6 (.call 89) [.t 5],gm 7 1,ga 8 (.app none 1) [.t 6,.t 7],ga 9 (.call 55) [.t 8],gn (.aP (some 22)) [.t 4,.t 9]]) .ret))
abbrev F44 :Go.Vm.Fn:=⟨10,B44,[(.cell 4 (some 22))],true⟩
theorem U7 :bC Tryz.prog ob Tryz.f44 true=some F44:=by kernel_rfl
theorem U8 :B44.fits 10=true:=by kernel_rfl
def Ho :Go.Vm.C:=(.loop (.seq (.seq (.af [gm 5 4,ga 6 (.bin .num .geq) [.t 5,kc 0]]) (.cond (.t 6) .skip (.exit 0))) (.seq (.block 1 (.af [gm 9 3,ga 10 (.bin .num .mul) [.t 9,(.c (.s (.int .u32 256)))],gm 11 0,gm 12 4,ga 13 (.dz none) [.t 11,.t 12],ga 14 (.ld none) [.t 13],ga 15 (.gI .u32) [.t 14],ga 16 (.bin .num .add) [.t 10,.t 15],gm 3 16])) (.af [gm 7 4,ga 8 (.bin .num .sub) [.t 7,kc 1],gm 4 8]))))
def Hq :Go.Vm.C:=(.seq (.af [gm 17 3,gm 2 17]) .ret)
def B45 :Go.Vm.C:=(.seq (.af [ga 2 .mv [(.c (.s (.int .u32 0)))]]) (.seq (.af [ga 3 .mv [(.c (.s (.int .u32 0)))]]) (.seq (.seq (.af [ga 4 .mv [kc 3]]) (.block 0 Ho)) Hq)))
abbrev F45 :Go.Vm.Fn:=⟨18,B45,[(.t 2)],true⟩
theorem U9 :bC Tryz.prog ob Tryz.f45 true=some F45:=by kernel_rfl
theorem Va :B45.fits 18=true:=by kernel_rfl
def B46 :Go.Vm.C:=(.seq (.af [gm 2 0,gm 3 0,ga 4 (.dz none) [.t 3,kc 0],ga 5 (.ld none) [.t 4],gm 6 0,ga 7 (.dz none) [.t 6,kc 1],ga 8 (.ld none) [.t 7],ga 9 (.bin .num .add) [.t 5,.t 8],ga 10 (.dz none) [.t 2,kc 0],gn (.aP none) [.t 10,.t 9]]) (.seq (.af [gm 11 0,gm 12 0,ga 13 (.dz none) [.t 12,kc 3],ga 14 (.ld none) [.t 13],gm 15 0,ga 16 (.dz none) [.t 15,kc 0],ga 17 (.ld none) [.t 16],ga 18 (.bin .num .xor) [.t 14,.t 17],ga 19 (.call 90) [.t 18,kc 16],ga 20 (.dz none) [.t 11,kc 3],gn (.aP none) [.t 20,.t 19]]) (.seq (.af [gm 21 0,gm 22 0,ga 23 (.dz none) [.t 22,kc 2],ga 24 (.ld none) [.t 23],gm 25 0,ga 26 (.dz none) [.t 25,kc 3],ga 27 (.ld none) [.t 26],ga 28 (.bin .num .add) [.t 24,.t 27],ga 29 (.dz none) [.t 21,kc 2],gn (.aP none) [.t 29,.t 28]]) (.seq (.af [gm 30 0,gm 31 0,ga 32 (.dz none) [.t 31,kc 1],ga 33 (.ld none) [.t 32],gm 34 0,ga 35 (.dz none) [.t 34,kc 2],ga 36 (.ld none) [.t 35],ga 37 (.bin .num .xor) [.t 33,.t 36],ga 38 (.call 90) [.t 37,kc 12],ga 39 (.dz none) [.t 30,kc 1],gn (.aP none) [.t 39,.t 38]]) (.seq (.af [gm 40 0,gm 41 0,ga 42 (.dz none) [.t 41,kc 0],ga 43 (.ld none) [.t 42],gm 44 0,ga 45 (.dz none) [.t 44,kc 1],ga 46 (.ld none) [.t 45],ga 47 (.bin .num .add) [.t 43,.t 46],ga 48 (.dz none) [.t 40,kc 0],gn (.aP none) [.t 48,.t 47]]) (.seq (.af [gm 49 0,gm 50 0,ga 51 (.dz none) [.t 50,kc 3],ga 52 (.ld none) [.t 51],gm 53 0,ga 54 (.dz none) [.t 53,kc 0],ga 55 (.ld none) [.t 54],ga 56 (.bin .num .xor) [.t 52,.t 55],ga 57 (.call 90) [.t 56,kc 8],ga 58 (.dz none) [.t 49,kc 3],gn (.aP none) [.t 58,.t 57]]) (.seq (.af [gm 59 0,gm 60 0,ga 61 (.dz none) [.t 60,kc 2],ga 62 (.ld none) [.t 61],gm 63 0,ga 64 (.dz none) [.t 63,kc 3],ga 65 (.ld none) [.t 64],ga 66 (.bin .num .add) [.t 62,.t 65],ga 67 (.dz none) [.t 59,kc 2],gn (.aP none) [.t 67,.t 66]]) (.af [gm 68 0,gm 69 0,ga 70 (.dz none) [.t 69,kc 1],ga 71 (.ld none) [.t 70],gm 72 0,ga 73 (.dz none) [.t 72,kc 2],ga 74 (.ld none) [.t 73],ga 75 (.bin .num .xor) [.t 71,.t 74],ga 76 (.call 90) [.t 75,kc 7],ga 77 (.dz none) [.t 68,kc 1],gn (.aP none) [.t 77,.t 76]]))))))))
abbrev F46 :Go.Vm.Fn:=⟨78,B46,[],true⟩
theorem Vb :bC Tryz.prog ob Tryz.f46 true=some F46:=by kernel_rfl
theorem Vc :B46.fits 78=true:=by kernel_rfl
def B47 :Go.Vm.C:=(.seq (.af [ga 1 (.box (some 40)) [.t 0],ga 2 .mv [kb false]]) (.seq (.af [ga 4 (.fa 40 3) [.t 1],ga 5 (.ld none) [.t 4],ga 6 (.bin .num .geq) [.t 5,(.c (.s (.int .u64 1)))],gm 7 6,gw 7 true 8 (.fa 40 3) [.t 1],gw 7 true 9 (.ld none) [.t 8],gw 7 true 10 (.bin .num .leq) [.t 9,(.c (.s (.int .u64 1099511627776)))],ga 11 .pick [.t 7,.t 10,kb false],gm 12 11,gw 12 true 13 (.fa 40 1) [.t 1],gw 12 true 14 (.ld none) [.t 13],gw 12 true 15 (.bin .num .geq) [.t 14,kc 0],ga 16 .pick [.t 12,.t 15,kb false],gm 17 16,gw 17 true 18 (.fa 40 1) [.t 1],gw 17 true 19 (.ld none) [.t 18],gw 17 true 20 (.bin .num .lss) [.t 19,kc 16],ga 21 .pick [.t 17,.t 20,kb false],gm 22 21,gw 22 true 23 (.fa 40 4) [.t 1],gw 22 true 24 (.ld (some 37)) [.t 23],gw 22 true 25 (.call 91) [.t 24],ga 26 .pick [.t 22,.t 25,kb false],gm 3 26]) (.seq (.seq (.af [ga 27 (.fa 40 0) [.t 1],ga 28 (.ld none) [.t 27]]) (.block 0 (.seq (.af [ga 30 (.bin .num .eql) [.t 28,kc 1],gm 29 30]) (.cond (.t 29) (.seq (.af [ga 31 (.fa 40 4) [.t 1],ga 32 (.ld (some 37)) [.t 31],ga 33 (.call 92) [.t 32],gm 34 33,gw 34 true 35 (.fa 40 1) [.t 1],gw 34 true 36 (.ld none) [.t 35],gw 34 true 37 (.bin .num .eql) [.t 36,kc 0],ga 38 .pick [.t 34,.t 37,kb false],gm 39 38,gw 39 true 40 (.fa 40 2) [.t 1],gw 39 true 41 (.ld none) [.t 40],gw 39 true 42 (.bin .num .eql) [.t 41,kc 0],ga 43 .pick [.t 39,.t 42,kb false],gm 44 43,gw 44 true 45 (.fa 40 3) [.t 1],gw 44 true 46 (.ld none) [.t 45],gw 44 true 47 (.bin .num .eql) [.t 46,(.c ku)],ga 48 .pick [.t 44,.t 47,kb false],gm 49 48,gw 49 true 50 (.fa 40 5) [.t 1],gw 49 true 51 (.ld none) [.t 50],gw 49 true 52 .len [.t 51],gw 49 true 53 (.bin .num .eql) [.t 52,kc 0],ga 54 .pick [.t 49,.t 53,kb false],gm 2 54]) .ret) (.seq (.af [ga 56 (.bin .num .eql) [.t 28,kc 2],gm 55 56]) (.cond (.t 55) (.seq (.af [gm 57 3,gm 58 57,gw 58 true 59 (.fa 40 2) [.t 1],gw 58 true 60 (.ld none) [.t 59],gw 58 true 61 (.bin .num .geq) [.t 60,kc 0],ga 62 .pick [.t 58,.t 61,kb false],gm 63 62,gw 63 true 64 (.fa 40 2) [.t 1],gw 63 true 65 (.ld none) [.t 64],gw 63 true 66 (.bin .num .lss) [.t 65,kc 8],ga 67 .pick [.t 63,.t 66,kb false],gm 68 67,gw 68 true 69 (.fa 40 5) [.t 1],gw 68 true 70 (.ld none) [.t 69],gw 68 true 71 .len [.t 70],gw 68 true 72 (.bin .num .eql) [.t 71,kc 0],ga 73 .pick [.t 68,.t 72,kb false],gm 2 73]) .ret) (.seq (.af [ga 75 (.bin .num .eql) [.t 28,kc 3],gm 74 75]) (.cond (.t 74) (.seq (.af [gm 76 3,gm 77 76,gw 77 true 78 (.fa 40 2) [.t 1],gw 77 true 79 (.ld none) [.t 78],gw 77 true 80 (.bin .num .eql) [.t 79,kc 0],ga 81 .pick [.t 77,.t 80,kb false],gm 82 81,gw 82 true 83 (.fa 40 5) [.t 1],gw 82 true 84 (.ld none) [.t 83],gw 82 true 85 (.call 93) [.t 84],ga 86 .pick [.t 82,.t 85,kb false],gm 2 86]) .ret) (.seq (.af [ga 88 (.bin .num .eql) [.t 28,kc 4],gm 87 88]) (.cond (.t 87) (.seq (.af [gm 89 3,gm 90 89,gw 90 true 91 (.fa 40 2) [.t 1],gw 90 true 92 (.ld none) [.t 91],gw 90 true 93 (.bin .num .eql) [.t 92,kc 0],ga 94 .pick [.t 90,.t 93,kb false],gm 95 94,gw 95 true 96 (.fa 40 5) [.t 1],gw 95 true 97 (.ld none) [.t 96],gw 95 true 98 .len [.t 97],gw 95 true 99 (.bin .num .eql) [.t 98,kc 0],ga 100 .pick [.t 95,.t 99,kb false],gm 2 100]) .ret) .skip)))))))))) (.seq (.af [ga 2 .mv [kb false]]) .ret))))
abbrev F47 :Go.Vm.Fn:=⟨101,B47,[(.t 2)],true⟩
theorem Vd :bC Tryz.prog ob Tryz.f47 true=some F47:=by kernel_rfl
theorem Ve :B47.fits 101=true:=by kernel_rfl
def B48 :Go.Vm.C:=(.seq (.af [ga 3 (.box (some 37)) [.t 1],ga 4 .mv [kc 0]]) (.seq (.bc [gl 0 1 (gm 8 0),gl 0 1 (ga 9 .bL [.t 8]),gl 0 1 (ga 10 (.fa 92 2) [.t 9]),gl 0 1 (ga 11 (.ld none) [.t 10]),gl 0 1 (ga 12 (.fa 37 0) [.t 3]),gl 0 1 (ga 13 (.ld (some 28)) [.t 12]),gl 0 1 (ga 14 (.eB 59) [.t 13]),gl 0 1 (ga 15 (.dz (some 96)) [.t 11,.t 14]),gl 0 1 (ga 16 (.ld (some 96)) [.t 15]),gl 0 1 (ga 5 (.dj (some 96) (.st 96 [ki,ku,ki,(.s (.pointer none))])) []),gl 1 2 (gn (.aP (some 96)) [.t 5,.t 16])]) (.seq (.af [ga 18 (.fa 96 3) [.t 5],ga 19 (.ld none) [.t 18],ga 20 (.fa 37 0) [.t 3],ga 21 (.ld (some 28)) [.t 20],ga 22 (.call 94) [.t 19,.t 21],gm 17 22,ga 23 (.ext 0) [.t 17],ga 24 (.ext 1) [.t 17],ga 6 (.dj (some 37) (.st 37 [(z4 28),ku,(aK 22),kx,ki,ki,(aK 22),(.s (.bool false)),(.s (.bool false))])) [],gn (.aP (some 37)) [.t 6,.t 23],gm 7 24]) (.seq (.block 0 (.seq (.af [ga 26 (.fa 96 0) [.t 5],ga 27 (.ld none) [.t 26],ga 28 (.bin .num .eql) [.t 27,kc 0],gm 25 28]) (.cond (.t 25) (.seq (.af [ga 4 .mv [kc 26]]) .ret) (.seq (.af [ga 30 (.fa 96 0) [.t 5],ga 31 (.ld none) [.t 30],ga 32 (.bin .num .eql) [.t 31,kc 2],gm 29 32]) (.cond (.t 29) (.seq (.af [ga 4 .mv [kc 27]]) .ret) (.seq (.af [gm 34 7,ga 35 (.un .not) [.t 34],gm 36 35,gw 36 true 37 (.fa 96 3) [.t 5],gw 36 true 38 (.ld none) [.t 37],gw 36 true 39 (.call 95) [.t 38],gw 36 true 40 (.bin .num .geq) [.t 39,kc 4],ga 41 .pick [.t 36,.t 40,kb false],gm 33 41]) (.cond (.t 33) (.seq (.af [ga 4 .mv [kc 13]]) .ret) .skip))))))) (.seq (.af [ga 4 .mv [kc 0]]) .ret)))))
abbrev F48 :Go.Vm.Fn:=⟨42,B48,[(.t 4)],true⟩
theorem Vf :bC Tryz.prog ob Tryz.f48 true=some F48:=by kernel_rfl
theorem Vg :B48.fits 42=true:=by kernel_rfl
def B49 :Go.Vm.C:=(.seq (.af [ga 3 (.box (some 40)) [.t 1],ga 4 .mv [kc 0]]) (.seq (.bc [gl 0 1 (gm 6 0),gl 0 1 (ga 7 .bL [.t 6]),gl 0 1 (ga 8 (.fa 92 2) [.t 7]),gl 0 1 (ga 9 (.ld none) [.t 8]),gl 0 1 (ga 10 (.fa 40 1) [.t 3]),gl 0 1 (ga 11 (.ld none) [.t 10]),gl 0 1 (ga 12 (.dz (some 96)) [.t 9,.t 11]),gl 0 1 (ga 13 (.ld (some 96)) [.t 12]),gl 0 1 (ga 5 (.dj (some 96) (.st 96 [ki,ku,ki,(.s (.pointer none))])) []),gl 1 2 (gn (.aP (some 96)) [.t 5,.t 13])]) (.seq (.block 0 (.seq (.af [ga 15 (.fa 40 2) [.t 3],ga 16 (.ld none) [.t 15],gm 17 0,ga 18 .bL [.t 17],ga 19 (.fa 92 1) [.t 18],ga 20 (.ld none) [.t 19],ga 21 (.bin .num .geq) [.t 16,.t 20],gm 22 21,gw 22 false 23 (.fa 40 2) [.t 3],gw 22 false 24 (.ld none) [.t 23],gw 22 false 25 .mv [.t 0],gw 22 false 26 .bL [.t 25],gw 22 false 27 (.fa 92 0) [.t 26],gw 22 false 28 (.ld none) [.t 27],gw 22 false 29 (.bin .num .eql) [.t 24,.t 28],ga 30 .pick [.t 22,kb true,.t 29],gm 14 30]) (.cond (.t 14) (.seq (.af [ga 4 .mv [kc 1]]) .ret) (.seq (.af [ga 32 (.fa 96 0) [.t 5],ga 33 (.ld none) [.t 32],ga 34 (.bin .num .eql) [.t 33,kc 0],gm 31 34]) (.cond (.t 31) (.seq (.af [ga 4 .mv [kc 26]]) .ret) (.seq (.af [ga 36 (.fa 96 0) [.t 5],ga 37 (.ld none) [.t 36],ga 38 (.bin .num .eql) [.t 37,kc 2],gm 35 38]) (.cond (.t 35) (.seq (.af [ga 4 .mv [kc 27]]) .ret) (.seq (.af [ga 40 (.fa 40 3) [.t 3],ga 41 (.ld none) [.t 40],ga 42 (.fa 96 1) [.t 5],ga 43 (.ld none) [.t 42],ga 44 (.bin .num .add) [.t 43,(.c (.s (.int .u64 1)))],ga 45 (.bin .num .neq) [.t 41,.t 44],gm 39 45]) (.cond (.t 39) (.seq (.af [ga 4 .mv [kc 1]]) .ret) .skip))))))))) (.seq (.af [ga 4 .mv [kc 0]]) .ret))))
abbrev F49 :Go.Vm.Fn:=⟨46,B49,[(.t 4)],true⟩
theorem Vh :bC Tryz.prog ob Tryz.f49 true=some F49:=by kernel_rfl
theorem Vi :B49.fits 46=true:=by kernel_rfl
def B50 :Go.Vm.C:=(.seq (.af [ga 3 (.box (some 40)) [.t 1],ga 4 .mv [kc 0]]) (.seq (.bc [gl 0 1 (gm 6 0),gl 0 1 (ga 7 .bL [.t 6]),gl 0 1 (ga 8 (.fa 92 2) [.t 7]),gl 0 1 (ga 9 (.ld none) [.t 8]),gl 0 1 (ga 10 (.fa 40 1) [.t 3]),gl 0 1 (ga 11 (.ld none) [.t 10]),gl 0 1 (ga 12 (.dz (some 96)) [.t 9,.t 11]),gl 0 1 (ga 13 (.ld (some 96)) [.t 12]),gl 0 1 (ga 5 (.dj (some 96) (.st 96 [ki,ku,ki,(.s (.pointer none))])) []),gl 1 2 (gn (.aP (some 96)) [.t 5,.t 13])]) (.seq (.block 0 (.seq (.af [ga 15 (.fa 40 5) [.t 3],ga 16 (.ld none) [.t 15],ga 17 (.mkf 97) [.t 3],ga 18 (.call 96) [.t 16,.t 17],gm 14 18]) (.cond (.t 14) (.seq (.af [ga 4 .mv [kc 1]]) .ret) (.seq (.af [ga 20 (.fa 96 0) [.t 5],ga 21 (.ld none) [.t 20],ga 22 (.bin .num .eql) [.t 21,kc 1],gm 19 22]) (.cond (.t 19) (.seq (.af [ga 4 .mv [kc 26]]) .ret) (.seq (.af [ga 24 (.fa 40 3) [.t 3],ga 25 (.ld none) [.t 24],ga 26 (.fa 96 1) [.t 5],ga 27 (.ld none) [.t 26],ga 28 (.bin .num .leq) [.t 25,.t 27],gm 23 28]) (.cond (.t 23) (.seq (.af [ga 4 .mv [kc 31]]) .ret) .skip))))))) (.seq (.af [ga 4 .mv [kc 0]]) .ret))))
abbrev F50 :Go.Vm.Fn:=⟨29,B50,[(.t 4)],true⟩
theorem Vj :bC Tryz.prog ob Tryz.f50 true=some F50:=by kernel_rfl
theorem Vk :B50.fits 29=true:=by kernel_rfl
def Hr :Go.Vm.C:=(.loop (.seq (.af [ga 70 (.bin .num .lss) [.t 69,.t 68]]) (.seq (.cond (.t 70) .skip (.exit 1)) (.seq (.block 2 (.seq (.af [ga 71 (.dz (some 37)) [.t 67,.t 69],ga 72 (.ld (some 37)) [.t 71],ga 6 (.dj (some 37) (.st 37 [(z4 28),ku,(aK 22),kx,ki,ki,(aK 22),(.s (.bool false)),(.s (.bool false))])) [],gn (.aP (some 37)) [.t 6,.t 72]]) (.af [gm 73 4,ga 74 (.ld (some 37)) [.t 6],ga 75 (.call 98) [.t 74],ga 76 (.app none 1) [.t 73,.t 75],gm 4 76]))) (.af [ga 77 (.bin .num .add) [.t 69,kc 1],gm 69 77])))))
def B51 :Go.Vm.C:=(.seq (.af [ga 1 (.box (some 40)) [.t 0],ga 2 .mv [(.c (.aq true none []))],ga 3 .mv [kc 0]]) (.seq (.seq (.af [ga 7 (.ld (some 40)) [.t 1],ga 8 (.call 47) [.t 7],ga 9 (.un .not) [.t 8]]) (.cond (.t 9) (.seq (.af [ga 2 .mv [(.c (.aq true none []))],ga 3 .mv [kc 1]]) .ret) .skip)) (.seq (.af [ga 10 (.fa 40 0) [.t 1],ga 11 (.ld none) [.t 10],ga 12 (.gI .u8) [.t 11],ga 13 (.jg none [(.s (.int .u8 0))] [0]) [.t 12],gm 4 13]) (.seq (.seq (.af [ga 14 (.fa 40 0) [.t 1],ga 15 (.ld none) [.t 14]]) (.block 0 (.seq (.af [ga 27 (.bin .num .eql) [.t 15,kc 1],gm 26 27]) (.cond (.t 26) (.af [gm 28 4,ga 29 (.fa 40 4) [.t 1],ga 30 (.ld (some 37)) [.t 29],ga 31 (.call 98) [.t 30],ga 32 (.app none 1) [.t 28,.t 31],gm 4 32]) (.seq (.af [ga 34 (.bin .num .eql) [.t 15,kc 2],gm 33 34]) (.cond (.t 33) (.bc [gl 0 1 (gm 35 4),gl 0 0 (ga 36 (.fa 40 1) [.t 1]),gl 0 0 (ga 37 (.ld none) [.t 36]),gl 0 0 (ga 38 (.gI .u8) [.t 37]),gl 0 0 (ga 39 (.fa 40 2) [.t 1]),gl 0 0 (ga 40 (.ld none) [.t 39]),gl 0 0 (ga 41 (.gI .u8) [.t 40]),gl 0 1 (ga 42 (.jg none [(.s (.int .u8 0)),(.s (.int .u8 0))] [0,1]) [.t 38,.t 41]),gl 1 2 (ga 43 (.app none 1) [.t 35,.t 42]),gl 0 2 (ga 44 (.fa 40 3) [.t 1]),gl 0 2 (ga 45 (.ld none) [.t 44]),gl 2 3 (ga 46 (.call 99) [.t 45]),gl 3 4 (ga 47 (.app none 1) [.t 43,.t 46]),gl 4 4 (gm 4 47)]) (.seq (.af [ga 49 (.bin .num .eql) [.t 15,kc 3],gm 48 49]) (.cond (.t 48) (.seq (.bc [gl 0 0 (gm 50 4),gl 0 0 (ga 51 (.fa 40 1) [.t 1]),gl 0 0 (ga 52 (.ld none) [.t 51]),gl 0 0 (ga 53 (.gI .u8) [.t 52]),gl 0 0 (ga 54 (.uY none [(.s (.int .u8 0))] [0]) [.t 53]),gl 0 1 (ga 55 (.app none 1) [.t 50,.t 54]),gl 0 1 (ga 56 (.fa 40 3) [.t 1]),gl 0 1 (ga 57 (.ld none) [.t 56]),gl 1 2 (ga 58 (.call 99) [.t 57]),gl 2 3 (ga 59 (.app none 1) [.t 55,.t 58]),gl 0 3 (ga 60 (.fa 40 5) [.t 1]),gl 0 3 (ga 61 (.ld none) [.t 60]),gl 0 3 (ga 62 .len [.t 61]),gl 0 3 (ga 63 (.gI .u8) [.t 62]),gl 0 3 (ga 64 (.uY none [(.s (.int .u8 0))] [0]) [.t 63]),gl 3 4 (ga 65 (.app none 1) [.t 59,.t 64]),gl 4 4 (gm 4 65)]) (.seq (.af [ga 66 (.fa 40 5) [.t 1],ga 67 (.ld none) [.t 66],ga 68 .len [.t 67],ga 69 .mv [kc 0]]) (.block 1 Hr))) (.bc [gl 0 1 (gm 16 4),gl 0 0 (ga 17 (.fa 40 1) [.t 1]),gl 0 0 (ga 18 (.ld none) [.t 17]),gl 0 0 (ga 19 (.gI .u8) [.t 18]),gl 0 1 (ga 20 (.jg none [(.s (.int .u8 0))] [0]) [.t 19]),gl 1 2 (ga 21 (.app none 1) [.t 16,.t 20]),gl 0 2 (ga 22 (.fa 40 3) [.t 1]),gl 0 2 (ga 23 (.ld none) [.t 22]),gl 2 3 (ga 24 (.call 99) [.t 23]),gl 3 4 (ga 25 (.app none 1) [.t 21,.t 24]),gl 4 4 (gm 4 25)]))))))))) (.seq (.af [gm 78 4,gm 2 78,ga 3 .mv [kc 0]]) .ret)))))
abbrev F51 :Go.Vm.Fn:=⟨79,B51,[(.t 2),(.t 3)],true⟩
theorem Vl :bC Tryz.prog ob Tryz.f51 true=some F51:=by kernel_rfl
theorem Vn :B51.fits 79=true:=by kernel_rfl
def B52 :Go.Vm.C:=(.seq (.af [ga 4 (.box (some 22)) [.t 0],ga 8 .mv [(.c (.aq true none []))]]) (.seq (.seq (.af [gm 9 3,ga 10 .len [.t 9],ga 11 (.bin .num .gtr) [.t 10,kc 8184],gm 12 11,gw 12 false 13 .mv [.t 2],gw 12 false 14 .len [.t 13],gw 12 false 15 (.bin .num .gtr) [.t 14,kc 8192],ga 16 .pick [.t 12,kb true,.t 15]]) (.cond (.t 16) (.seq (.af [ga 8 .mv [(.c (.aq true none []))]]) .ret) .skip)) (.seq (.bc [gl 0 0 (ga 17 (.ld (some 22)) [.t 4]),gl 0 0 (gm 18 1),gl 0 0 (gm 19 3),gl 0 1 (ga 20 (.call 100) [.t 17,.t 18,.t 19]),gl 0 1 (ga 21 (.ld (some 22)) [.t 4]),gl 0 1 (gm 22 1),gl 0 1 (gm 23 2),gl 0 1 (gm 24 3),gl 1 2 (ga 25 (.call 101) [.t 21,.t 22,.t 23,.t 24]),gl 2 3 (ga 26 (.app none 1) [.t 20,.t 25]),gl 3 3 (gm 8 26)]) .ret)))
abbrev F52 :Go.Vm.Fn:=⟨27,B52,[(.t 8)],true⟩
theorem Vo :bC Tryz.prog ob Tryz.f52 true=some F52:=by kernel_rfl
theorem Vp :B52.fits 27=true:=by kernel_rfl
def B53 :Go.Vm.C:=(.seq (.af [ga 2 (.box (some 63)) [.t 0],ga 3 (.box (some 63)) [.t 1],ga 4 (.dj (some 63) (.st 63 [ku,ku,ku,(aK 22),ki])) [],ga 5 .mv [kb false]]) (.seq (.seq (.af [ga 6 (.ld (some 63)) [.t 2],ga 7 (.call 62) [.t 6],ga 8 (.un .not) [.t 7],gm 9 8,gw 9 false 10 (.ld (some 63)) [.t 3],gw 9 false 11 (.call 62) [.t 10],gw 9 false 12 (.un .not) [.t 11],ga 13 .pick [.t 9,kb true,.t 12]]) (.cond (.t 13) (.seq (.af [ga 14 (.cG 63 [ku,ku,ku,(aK 22),ki] []) [],gn (.aP (some 63)) [.t 4,.t 14],ga 5 .mv [kb false]]) .ret) .skip)) (.seq (.af [ga 15 (.ld (some 63)) [.t 3],gn (.aP (some 63)) [.t 4,.t 15],ga 5 .mv [kb true]]) .ret)))
abbrev F53 :Go.Vm.Fn:=⟨16,B53,[(.cell 4 (some 63)),(.t 5)],true⟩
theorem Vq :bC Tryz.prog ob Tryz.f53 true=some F53:=by kernel_rfl
theorem Vr :B53.fits 16=true:=by kernel_rfl
def B54 :Go.Vm.C:=(.seq (.af [ga 2 (.box (some 22)) [.t 0],ga 3 (.box (some 22)) [.t 1],ga 4 (.dj (some 22) (aK 22)) []]) (.seq (.af [ga 5 (.ld (some 22)) [.t 2],ga 6 (.mC 22 none false false) [.t 3],ga 7 (.call 44) [.t 5,.t 6],gn (.aP (some 22)) [.t 4,.t 7]]) .ret))
abbrev F54 :Go.Vm.Fn:=⟨8,B54,[(.cell 4 (some 22))],true⟩
theorem Vs :bC Tryz.prog ob Tryz.f54 true=some F54:=by kernel_rfl
theorem Vt :B54.fits 8=true:=by kernel_rfl
def Hs :Go.Vm.C:=(.loop (.seq (.seq (.af [gm 13 4,ga 14 .len [.t 13],ga 15 (.bin .num .rem) [.t 14,kc 8],ga 16 (.bin .num .neq) [.t 15,kc 0]]) (.cond (.t 16) .skip (.exit 0))) (.block 1 (.af [gm 17 4,ga 18 (.jg none [(.s (.int .u8 0))] [0]) [(.c (.s (.int .u8 0)))],ga 19 (.app none 1) [.t 17,.t 18],gm 4 19]))))
def Ht :Go.Vm.C:=(.loop (.seq (.af [ga 21 (.bin .num .lss) [.t 20,kc 8]]) (.seq (.cond (.t 21) .skip (.exit 2)) (.seq (.block 3 (.seq (.af [gm 22 20,gm 5 22]) (.af [gm 23 4,gm 24 0,ga 25 .len [.t 24],ga 26 (.gI .u64) [.t 25],gm 27 5,ga 28 (.bin .num .mul) [kc 8,.t 27],ga 29 (.bin .num .shr) [.t 26,.t 28],ga 30 (.gI .u8) [.t 29],ga 31 (.jg none [(.s (.int .u8 0))] [0]) [.t 30],ga 32 (.app none 1) [.t 23,.t 31],gm 4 32]))) (.af [ga 33 (.bin .num .add) [.t 20,kc 1],gm 20 33])))))
def Hu :Go.Vm.C:=(.loop (.seq (.af [ga 53 (.bin .num .lss) [.t 52,kc 3]]) (.seq (.cond (.t 53) .skip (.exit 6)) (.seq (.block 7 (.af [ga 54 (.call 103) [.t 3]])) (.af [ga 55 (.bin .num .add) [.t 52,kc 1],gm 52 55])))))
def Hv :Go.Vm.C:=(.loop (.seq (.seq (.af [gm 34 4,ga 35 .len [.t 34],ga 36 (.bin .num .gtr) [.t 35,kc 0]]) (.cond (.t 36) .skip (.exit 4))) (.seq (.block 5 (.seq (.bc [gl 0 1 (ga 39 (.kG 147) [.t 3,kc 0]),gl 0 1 (ga 40 (.ld none) [.t 39]),gl 0 0 (gm 41 4),gl 0 1 (ga 42 (.call 102) [.t 41]),gl 1 1 (ga 43 (.bin .num .xor) [.t 40,.t 42]),gl 1 1 (ga 44 (.kG 147) [.t 3,kc 0]),gl 1 2 (gn (.aP none) [.t 44,.t 43])]) (.seq (.bc [gl 0 1 (ga 45 (.kG 147) [.t 3,kc 3]),gl 0 1 (ga 46 (.ld none) [.t 45]),gl 0 0 (gm 47 4),gl 0 0 (ga 48 (.j2 none true false false) [.t 47,kc 4]),gl 0 1 (ga 49 (.call 102) [.t 48]),gl 1 1 (ga 50 (.bin .num .xor) [.t 46,.t 49]),gl 1 1 (ga 51 (.kG 147) [.t 3,kc 3]),gl 1 2 (gn (.aP none) [.t 51,.t 50])]) (.seq (.af [ga 52 .mv [kc 0]]) (.block 6 Hu))))) (.af [gm 37 4,ga 38 (.j2 none true false false) [.t 37,kc 8],gm 4 38]))))
def Hw :Go.Vm.C:=(.loop (.seq (.af [ga 57 (.bin .num .lss) [.t 56,kc 8]]) (.seq (.cond (.t 57) .skip (.exit 8)) (.seq (.block 9 (.af [ga 58 (.call 103) [.t 3]])) (.af [ga 59 (.bin .num .add) [.t 56,kc 1],gm 56 59])))))
def AK :Go.Vm.C:=(.loop (.seq (.af [ga 61 (.bin .num .lss) [.t 60,kc 16]]) (.seq (.cond (.t 61) .skip (.exit 10)) (.seq (.block 11 (.seq (.af [gm 62 60,gm 7 62]) (.af [gm 63 7,gm 64 7,ga 65 (.bin .num .quo) [.t 64,kc 4],ga 66 (.kG 147) [.t 3,.t 65],ga 67 (.ld none) [.t 66],gm 68 7,ga 69 (.bin .num .rem) [.t 68,kc 4],ga 70 (.bin .num .mul) [kc 8,.t 69],ga 71 (.bin .num .shr) [.t 67,.t 70],ga 72 (.gI .u8) [.t 71],ga 73 (.kG 22) [.t 6,.t 63],gn (.aP none) [.t 73,.t 72]]))) (.af [ga 74 (.bin .num .add) [.t 60,kc 1],gm 60 74])))))
def AL :Go.Vm.C:=(.seq (.af [ga 75 (.ld (some 22)) [.t 6],gn (.aP (some 22)) [.t 2,.t 75]]) .ret)
def Hy :Go.Vm.C:=(.seq (.af [ga 6 (.dj (some 22) (aK 22)) []]) (.seq (.seq (.af [ga 60 .mv [kc 0]]) (.block 10 AK)) AL))
def Hz :Go.Vm.C:=(.seq (.seq (.af [ga 56 .mv [kc 0]]) (.block 8 Hw)) Hy)
def HC :Go.Vm.C:=(.seq (.block 4 Hv) Hz)
def HE :Go.Vm.C:=(.seq (.seq (.af [ga 20 .mv [kc 0]]) (.block 2 Ht)) HC)
def B55 :Go.Vm.C:=(.seq (.af [ga 2 (.dj (some 22) (aK 22)) []]) (.seq (.af [ga 8 (.gJ 147 [(.s (.int .u32 0)),(.s (.int .u32 0)),(.s (.int .u32 0)),(.s (.int .u32 0))] [0,1,2,3]) [(.c (.s (.int .u32 1668047222))),(.c (.s (.int .u32 1768383858))),(.c (.s (.int .u32 1801807216))),(.c (.s (.int .u32 1935763045)))],ga 3 (.dj (some 147) (.arr 147 [(.s (.int .u32 0)),(.s (.int .u32 0)),(.s (.int .u32 0)),(.s (.int .u32 0))])) [],gn (.aP (some 147)) [.t 3,.t 8]]) (.seq (.af [gm 9 0,ga 10 (.call 89) [.t 9],ga 11 (.jg none [(.s (.int .u8 0))] [0]) [(.c (.s (.int .u8 128)))],ga 12 (.app none 1) [.t 10,.t 11],gm 4 12]) (.seq (.block 0 Hs) HE))))
abbrev F55 :Go.Vm.Fn:=⟨76,B55,[(.cell 2 (some 22))],true⟩
theorem Vu :bC Tryz.prog ob Tryz.f55 true=some F55:=by kernel_rfl
theorem Vv :B55.fits 76=true:=by kernel_rfl
def B56 :Go.Vm.C:=(.seq (.af [ga 6 .mv [kb false]]) (.seq (.seq (.af [gm 7 1,ga 8 (.call 104) [.t 7],ga 9 (.un .not) [.t 8],gm 10 9,gw 10 false 11 .mv [.t 2],gw 10 false 12 .len [.t 11],gw 10 false 13 (.bin .num .gtr) [.t 12,kc 8192],ga 14 .pick [.t 10,kb true,.t 13]]) (.cond (.t 14) (.seq (.af [ga 6 .mv [kb false]]) .ret) .skip)) (.seq (.bc [gl 0 1 (gm 15 0),gl 0 1 (gm 16 1),gl 0 0 (gm 17 2),gl 0 1 (ga 18 (.call 105) [.t 17]),gl 0 1 (ga 19 .bL [.t 15]),gl 0 1 (ga 20 (.fa 102 0) [.t 19]),gl 1 1 (ga 21 (.kG 101) [.t 20,.t 16]),gl 1 2 (gn (.aP (some 99)) [.t 21,.t 18])]) (.seq (.af [gm 22 0,ga 23 .bL [.t 22],ga 24 (.fa 102 2) [.t 23],ga 25 (.ld none) [.t 24],ga 26 (.bin .num .add) [.t 25,kc 1],ga 27 .bL [.t 22],ga 28 (.fa 102 2) [.t 27],gn (.aP none) [.t 28,.t 26]]) (.seq (.af [gm 29 0,gm 30 0,gm 31 1,gm 32 2,ga 33 (.call 89) [.t 32],ga 34 .bL [.t 29],ga 35 (.fa 102 3) [.t 34],gn (.aP none) [.t 35,.t 31],ga 36 .bL [.t 30],ga 37 (.fa 102 4) [.t 36],gn (.aP none) [.t 37,.t 33]]) (.seq (.af [ga 6 .mv [kb true]]) .ret))))))
abbrev F56 :Go.Vm.Fn:=⟨38,B56,[(.t 6)],false⟩
theorem Vw :bC Tryz.prog ob Tryz.f56 false=some F56:=by kernel_rfl
theorem Vx :B56.fits 38=true:=by kernel_rfl
def B57 :Go.Vm.C:=(.af [gm 2 0,gm 3 0,gm 4 0,ga 5 .bL [.t 4],ga 6 (.fa 102 0) [.t 5],ga 7 (.ld (some 101)) [.t 6],ga 8 .bL [.t 2],ga 9 (.fa 102 1) [.t 8],gn (.aP (some 101)) [.t 9,.t 7],ga 10 .bL [.t 3],ga 11 (.fa 102 2) [.t 10],gn (.aP none) [.t 11,kc 0]])
abbrev F57 :Go.Vm.Fn:=⟨12,B57,[],false⟩
theorem Vy :bC Tryz.prog ob Tryz.f57 false=some F57:=by kernel_rfl
theorem Vz :B57.fits 12=true:=by kernel_rfl
def B58 :Go.Vm.C:=(.seq (.af [gm 4 0,gm 5 0,ga 6 .bL [.t 4],ga 7 (.fa 65 3) [.t 6],gn (.aP none) [.t 7,kc 2],ga 8 .bL [.t 5],ga 9 (.fa 65 8) [.t 8],gn (.aP none) [.t 9,kc (-1)]]) (.af [gm 10 0,ga 11 .bL [.t 10],ga 12 (.fa 65 5) [.t 11],ga 13 (.ld none) [.t 12],gm 14 1,ga 15 (.call 106) [.t 13,.t 14]]))
abbrev F58 :Go.Vm.Fn:=⟨16,B58,[],false⟩
theorem VA :bC Tryz.prog ob Tryz.f58 false=some F58:=by kernel_rfl
theorem VB :B58.fits 16=true:=by kernel_rfl
def B59 :Go.Vm.C:=(.seq (.af [ga 1 (.box (some 28)) [.t 0],ga 2 .mv [kc 0]]) (.seq (.af [ga 3 (.mC 28 none false false) [.t 1],ga 4 (.call 55) [.t 3],ga 5 (.idx 22) [.t 4,kc 0],ga 6 (.bin .num .rem) [.t 5,(.c (.s (.int .u8 16)))],ga 7 (.gI .i64) [.t 6],gm 2 7]) .ret))
abbrev F59 :Go.Vm.Fn:=⟨8,B59,[(.t 2)],true⟩
theorem VC :bC Tryz.prog ob Tryz.f59 true=some F59:=by kernel_rfl
theorem VD :B59.fits 8=true:=by kernel_rfl
def GS :Go.Vm.C:=(.seq (.af [ga 3 (.box (some 37)) [.t 1],ga 4 .mv [kc 0]]) (.seq (.af [gm 8 0,ga 9 (.fa 37 0) [.t 3],ga 10 (.ld (some 28)) [.t 9],ga 11 (.call 107) [.t 8,.t 10],gm 7 11,ga 12 (.ext 0) [.t 7],ga 13 (.ext 1) [.t 7],gm 5 12,gm 6 13]) (.seq (.block 0 (.seq (.af [ga 27 (.ld (some 37)) [.t 3],ga 28 (.call 92) [.t 27],ga 29 (.un .not) [.t 28],gm 26 29]) (.cond (.t 26) (.seq (.af [ga 4 .mv [kc 1]]) .ret) (.seq (.af [gm 31 6,gm 30 31]) (.cond (.t 30) (.bc [gl 0 1 (gm 32 0),gl 0 1 (ga 33 .bL [.t 32]),gl 0 1 (ga 34 (.fa 138 0) [.t 33]),gl 0 1 (ga 35 (.ld none) [.t 34]),gl 0 1 (gm 36 5),gl 0 0 (ga 37 (.ld (some 37)) [.t 3]),gl 0 1 (ga 38 (.call 108) [.t 37]),gl 1 1 (ga 39 (.dz (some 37)) [.t 35,.t 36]),gl 1 2 (gn (.aP (some 37)) [.t 39,.t 38])]) (.seq (.af [gm 41 0,ga 42 .bL [.t 41],ga 43 (.fa 138 0) [.t 42],ga 44 (.ld none) [.t 43],ga 45 .len [.t 44],ga 46 (.bin .num .geq) [.t 45,kc 4],gm 40 46]) (.cond (.t 40) (.seq (.af [ga 4 .mv [kc 13]]) .ret) (.bc [gl 0 3 (gm 14 0),gl 0 2 (gm 15 0),gl 0 2 (ga 16 .bL [.t 15]),gl 0 2 (ga 17 (.fa 138 0) [.t 16]),gl 0 2 (ga 18 (.ld none) [.t 17]),gl 0 2 (gm 19 5),gl 0 0 (ga 20 (.ld (some 37)) [.t 3]),gl 0 1 (ga 21 (.call 108) [.t 20]),gl 1 2 (ga 22 (.jg (some 37) [(.st 37 [(z4 28),ku,(aK 22),kx,ki,ki,(aK 22),(.s (.bool false)),(.s (.bool false))])] [0]) [.t 21]),gl 2 3 (ga 23 (.call 109) [.t 18,.t 19,.t 22]),gl 3 3 (ga 24 .bL [.t 14]),gl 3 3 (ga 25 (.fa 138 0) [.t 24]),gl 3 4 (gn (.aP none) [.t 25,.t 23])])))))))) (.seq (.af [ga 4 .mv [kc 0]]) .ret))))
abbrev F60 :Go.Vm.Fn:=⟨47,GS,[(.t 4)],false⟩
theorem VE :bC Tryz.prog ob Tryz.f60 false=some F60:=by kernel_rfl
theorem yx :GS.fits 47=true:=by kernel_rfl
def yy :Go.Vm.C:=(.loop (.seq (.af [ga 15 (.bin .num .lss) [.t 14,.t 13]]) (.seq (.cond (.t 15) .skip (.exit 0)) (.seq (.block 1 (.seq (.af [gm 16 14,ga 17 (.dz (some 37)) [.t 12,.t 14],ga 18 (.ld (some 37)) [.t 17],ga 7 (.dj (some 37) (.st 37 [(z4 28),ku,(aK 22),kx,ki,ki,(aK 22),(.s (.bool false)),(.s (.bool false))])) [],gm 6 16,gn (.aP (some 37)) [.t 7,.t 18]]) (.seq (.seq (.af [ga 19 (.ld (some 37)) [.t 7],ga 20 (.call 92) [.t 19],ga 21 (.un .not) [.t 20],gm 22 21,gw 22 false 23 .mv [.t 6],gw 22 false 24 (.bin .num .gtr) [.t 23,kc 0],gw 22 false 25 .mv [.t 24],gw 25 true 26 .mv [.t 1],gw 25 true 27 .mv [.t 6],gw 25 true 28 (.bin .num .sub) [.t 27,kc 1],gw 25 true 29 (.dz (some 37)) [.t 26,.t 28],gw 25 true 30 (.fa 37 0) [.t 29],gw 25 true 31 (.mC 28 none false false) [.t 30],gw 25 true 32 (.fa 37 0) [.t 7],gw 25 true 33 (.mC 28 none false false) [.t 32],gw 25 true 34 (.call 110) [.t 31,.t 33],gw 25 true 35 (.bin .num .geq) [.t 34,kc 0],gw 22 false 36 .pick [.t 25,.t 35,kb false],ga 37 .pick [.t 22,kb true,.t 36]]) (.cond (.t 37) (.seq (.af [ga 4 .mv [kc 1]]) .ret) .skip)) (.bc [gl 0 3 (gm 38 5),gl 0 2 (gm 39 5),gl 0 2 (ga 40 .bL [.t 39]),gl 0 2 (ga 41 (.fa 138 0) [.t 40]),gl 0 2 (ga 42 (.ld none) [.t 41]),gl 0 0 (ga 43 (.ld (some 37)) [.t 7]),gl 0 1 (ga 44 (.call 108) [.t 43]),gl 1 2 (ga 45 (.jg (some 37) [(.st 37 [(z4 28),ku,(aK 22),kx,ki,ki,(aK 22),(.s (.bool false)),(.s (.bool false))])] [0]) [.t 44]),gl 2 3 (ga 46 (.app (some 37) 96) [.t 42,.t 45]),gl 3 3 (ga 47 .bL [.t 38]),gl 3 3 (ga 48 (.fa 138 0) [.t 47]),gl 3 4 (gn (.aP none) [.t 48,.t 46])])))) (.af [ga 49 (.bin .num .add) [.t 14,kc 1],gm 14 49])))))
def yz :Go.Vm.C:=(.seq (.af [gm 50 0,gm 51 5,ga 52 .bL [.t 51],ga 53 (.fa 138 0) [.t 52],ga 54 (.ld none) [.t 53],ga 55 .bL [.t 50],ga 56 (.fa 138 0) [.t 55],gn (.aP none) [.t 56,.t 54]]) (.seq (.af [ga 4 .mv [kc 0]]) .ret))
def B61 :Go.Vm.C:=(.seq (.af [ga 4 .mv [kc 0]]) (.seq (.seq (.af [gm 8 1,ga 9 .len [.t 8],ga 10 (.bin .num .gtr) [.t 9,kc 4]]) (.cond (.t 10) (.seq (.af [ga 4 .mv [kc 1]]) .ret) .skip)) (.seq (.af [ga 11 (.call 42) [],gm 5 11]) (.seq (.seq (.af [gm 12 1,ga 13 .len [.t 12],ga 14 .mv [kc 0]]) (.block 0 yy)) yz))))
abbrev F61 :Go.Vm.Fn:=⟨57,B61,[(.t 4)],false⟩
theorem VF :bC Tryz.prog ob Tryz.f61 false=some F61:=by kernel_rfl
theorem VG :B61.fits 57=true:=by kernel_rfl
def Ec :Go.Vm.C:=(.seq (.af [ga 1 (.box (some 63)) [.t 0],ga 2 .mv [kb false]]) (.seq (.af [ga 3 (.fa 63 0) [.t 1],ga 4 (.ld none) [.t 3],ga 5 (.bin .num .leq) [.t 4,(.c (.s (.int .u64 1099511627776)))],gm 6 5,gw 6 true 7 (.fa 63 1) [.t 1],gw 6 true 8 (.ld none) [.t 7],gw 6 true 9 (.bin .num .leq) [.t 8,(.c (.s (.int .u64 1099511627776)))],ga 10 .pick [.t 6,.t 9,kb false],gm 11 10,gw 11 true 12 (.fa 63 2) [.t 1],gw 11 true 13 (.ld none) [.t 12],gw 11 true 14 (.fa 63 1) [.t 1],gw 11 true 15 (.ld none) [.t 14],gw 11 true 16 (.bin .num .leq) [.t 13,.t 15],ga 17 .pick [.t 11,.t 16,kb false],gm 18 17,gw 18 true 19 (.fa 63 1) [.t 1],gw 18 true 20 (.ld none) [.t 19],gw 18 true 21 (.fa 63 2) [.t 1],gw 18 true 22 (.ld none) [.t 21],gw 18 true 23 (.bin .num .sub) [.t 20,.t 22],gw 18 true 24 (.bin .num .leq) [.t 23,(.c (.s (.int .u64 8)))],ga 25 .pick [.t 18,.t 24,kb false],gm 26 25,gw 26 true 27 (.fa 63 4) [.t 1],gw 26 true 28 (.ld none) [.t 27],gw 26 true 29 (.bin .num .eql) [.t 28,kc 0],gw 26 true 30 .mv [.t 29],gw 30 false 31 (.fa 63 4) [.t 1],gw 30 false 32 (.ld none) [.t 31],gw 30 false 33 (.bin .num .eql) [.t 32,kc 1],gw 26 true 34 .pick [.t 30,kb true,.t 33],ga 35 .pick [.t 26,.t 34,kb false],gm 36 35,gw 36 true 37 (.fa 63 1) [.t 1],gw 36 true 38 (.ld none) [.t 37],gw 36 true 39 (.bin .num .gtr) [.t 38,(.c ku)],gw 36 true 40 .mv [.t 39],gw 40 false 41 (.fa 63 3) [.t 1],gw 40 false 42 (.ld (some 22)) [.t 41],gw 40 false 43 (.gJ 22 [(.s (.int .u8 0)),(.s (.int .u8 0)),(.s (.int .u8 0)),(.s (.int .u8 0)),(.s (.int .u8 0)),(.s (.int .u8 0)),(.s (.int .u8 0)),(.s (.int .u8 0)),(.s (.int .u8 0)),(.s (.int .u8 0)),(.s (.int .u8 0)),(.s (.int .u8 0)),(.s (.int .u8 0)),(.s (.int .u8 0)),(.s (.int .u8 0)),(.s (.int .u8 0))] []) [],gw 40 false 44 (.wX 22 .u8 false) [.t 42,.t 43],gw 36 true 45 .pick [.t 40,kb true,.t 44],ga 46 .pick [.t 36,.t 45,kb false],gm 2 46]) .ret))
abbrev F62 :Go.Vm.Fn:=⟨47,Ec,[(.t 2)],true⟩
theorem VH :bC Tryz.prog ob Tryz.f62 true=some F62:=by kernel_rfl
theorem VI :Ec.fits 47=true:=by kernel_rfl
def B63 :Go.Vm.C:=(.seq (.af [ga 3 (.box (some 22)) [.t 0],ga 4 (.box (some 63)) [.t 1],ga 6 .mv [(.c (.aq true none []))],ga 7 .mv [kc 0]]) (.seq (.seq (.af [gm 8 2,ga 9 .len [.t 8],ga 10 (.bin .num .gtr) [.t 9,kc 8184]]) (.cond (.t 10) (.seq (.af [ga 6 .mv [(.c (.aq true none []))],ga 7 .mv [kc 3]]) .ret) .skip)) (.seq (.af [ga 11 (.ld (some 22)) [.t 3],ga 12 (.fa 63 1) [.t 4],ga 13 (.ld none) [.t 12],ga 14 (.jg none [(.s (.int .u8 0)),(.s (.int .u8 0)),(.s (.int .u8 0)),(.s (.int .u8 0)),(.s (.int .u8 0))] [0,1,2,3,4]) [(.c (.s (.int .u8 105))),(.c (.s (.int .u8 109))),(.c (.s (.int .u8 97))),(.c (.s (.int .u8 103))),(.c (.s (.int .u8 101)))],ga 15 .pe [.t 14],gm 16 2,ga 17 (.call 52) [.t 11,.t 13,.t 15,.t 16],gm 6 17,ga 7 .mv [kc 0]]) .ret)))
abbrev F63 :Go.Vm.Fn:=⟨18,B63,[(.t 6),(.t 7)],true⟩
theorem VJ :bC Tryz.prog ob Tryz.f63 true=some F63:=by kernel_rfl
theorem VK :B63.fits 18=true:=by kernel_rfl
def OG :Go.Vm.C:=(.loop (.seq (.af [ga 58 (.bin .num .lss) [.t 57,.t 56]]) (.seq (.cond (.t 58) .skip (.exit 2)) (.seq (.block 3 (.seq (.af [ga 59 (.dz (some 37)) [.t 55,.t 57],ga 60 (.ld (some 37)) [.t 59],ga 12 (.dj (some 37) (.st 37 [(z4 28),ku,(aK 22),kx,ki,ki,(aK 22),(.s (.bool false)),(.s (.bool false))])) [],gn (.aP (some 37)) [.t 12,.t 60]]) (.seq (.af [ga 62 (.ld (some 37)) [.t 12],ga 63 (.call 111) [.t 62],gm 61 63,ga 64 (.ext 0) [.t 61],ga 65 (.ext 1) [.t 61],gm 13 64,gm 14 65]) (.af [gm 66 5,gm 67 13,ga 68 (.app none 1) [.t 66,.t 67],gm 5 68])))) (.af [ga 69 (.bin .num .add) [.t 57,kc 1],gm 57 69])))))
def OH :Go.Vm.C:=(.loop (.seq (.af [ga 28 (.bin .num .lss) [.t 27,kc 16]]) (.seq (.cond (.t 28) .skip (.exit 0)) (.seq (.block 1 (.seq (.af [gm 29 27,gm 6 29]) (.seq (.af [gm 31 0,gm 32 6,ga 33 (.call 75) [.t 31,.t 32],gm 30 33,ga 34 (.ext 0) [.t 30],ga 35 (.ext 1) [.t 30],ga 36 (.ext 2) [.t 30],gm 7 34,gm 8 35,gm 9 36]) (.seq (.af [gm 37 0,gm 38 6,ga 39 (.call 78) [.t 37,.t 38],gm 10 39]) (.seq (.af [gm 40 5,gm 41 7,ga 42 (.gI .u8) [.t 41],ga 43 (.jg none [(.s (.int .u8 0))] [0]) [.t 42],ga 44 (.app none 1) [.t 40,.t 43],gm 45 8,ga 46 (.call 99) [.t 45],ga 47 (.app none 1) [.t 44,.t 46],gm 48 9,ga 49 (.gI .u8) [.t 48],gm 50 10,ga 51 .len [.t 50],ga 52 (.gI .u8) [.t 51],ga 53 (.jg none [(.s (.int .u8 0)),(.s (.int .u8 0))] [0,1]) [.t 49,.t 52],ga 54 (.app none 1) [.t 47,.t 53],gm 5 54]) (.seq (.af [gm 55 10,ga 56 .len [.t 55],ga 57 .mv [kc 0]]) (.block 2 OG))))))) (.af [ga 70 (.bin .num .add) [.t 27,kc 1],gm 27 70])))))
def OI :Go.Vm.C:=(.seq (.af [gm 71 5,gm 2 71]) .ret)
def B64 :Go.Vm.C:=(.seq (.af [ga 2 .mv [(.c (.aq true none []))]]) (.seq (.seq (.af [gm 15 0,ga 16 (.bin .ptr .eql) [.t 15,(.c (.s (.pointer none)))]]) (.cond (.t 16) (.seq (.af [ga 2 .mv [(.c (.aq true none []))]]) .ret) .skip)) (.seq (.af [gm 18 0,ga 19 (.call 35) [.t 18],gm 17 19,ga 20 (.ext 0) [.t 17],ga 21 (.ext 1) [.t 17],gm 3 20,gm 4 21]) (.seq (.af [gm 22 3,ga 23 (.gI .u8) [.t 22],gm 24 4,ga 25 (.gI .u8) [.t 24],ga 26 (.jg none [(.s (.int .u8 0)),(.s (.int .u8 0))] [0,1]) [.t 23,.t 25],gm 5 26]) (.seq (.seq (.af [ga 27 .mv [kc 0]]) (.block 0 OH)) OI)))))
abbrev F64 :Go.Vm.Fn:=⟨72,B64,[(.t 2)],true⟩
theorem VL :bC Tryz.prog ob Tryz.f64 true=some F64:=by kernel_rfl
theorem VM :B64.fits 72=true:=by kernel_rfl
def B65 :Go.Vm.C:=(.seq (.af [ga 1 (.box (some 63)) [.t 0],ga 2 .mv [kc 0]]) (.seq (.af [ga 3 (.fa 63 4) [.t 1],ga 4 (.ld none) [.t 3],ga 5 (.bin .num .sub) [kc 1,.t 4],gm 2 5]) .ret))
abbrev F65 :Go.Vm.Fn:=⟨6,B65,[(.t 2)],true⟩
theorem VN :bC Tryz.prog ob Tryz.f65 true=some F65:=by kernel_rfl
theorem VO :B65.fits 6=true:=by kernel_rfl
def B66 :Go.Vm.C:=(.seq (.af [ga 2 (.box (some 63)) [.t 0],ga 3 (.box (some 22)) [.t 1],ga 4 (.dj (some 63) (.st 63 [ku,ku,ku,(aK 22),ki])) [],ga 5 .mv [kb false]]) (.seq (.seq (.af [ga 7 (.fa 63 1) [.t 2],ga 8 (.ld none) [.t 7],ga 9 (.fa 63 2) [.t 2],ga 10 (.ld none) [.t 9],ga 11 (.bin .num .leq) [.t 8,.t 10]]) (.cond (.t 11) (.seq (.af [ga 12 (.cG 63 [ku,ku,ku,(aK 22),ki] []) [],gn (.aP (some 63)) [.t 4,.t 12],ga 5 .mv [kb false]]) .ret) .skip)) (.seq (.af [ga 13 (.ld (some 63)) [.t 2],ga 6 (.dj (some 63) (.st 63 [ku,ku,ku,(aK 22),ki])) [],gn (.aP (some 63)) [.t 6,.t 13]]) (.seq (.bc [gl 0 0 (ga 14 (.fa 63 1) [.t 2]),gl 0 0 (ga 15 (.ld none) [.t 14]),gl 0 0 (ga 16 (.fa 63 4) [.t 2]),gl 0 0 (ga 17 (.ld none) [.t 16]),gl 0 1 (ga 18 (.bin .num .sub) [kc 1,.t 17]),gl 0 2 (ga 19 (.ld (some 22)) [.t 3]),gl 0 0 (ga 20 (.fa 63 2) [.t 2]),gl 0 1 (gn (.aP none) [.t 20,.t 15]),gl 1 1 (ga 21 (.fa 63 4) [.t 2]),gl 1 2 (gn (.aP none) [.t 21,.t 18]),gl 2 2 (ga 22 (.fa 63 3) [.t 2]),gl 2 3 (gn (.aP (some 22)) [.t 22,.t 19])]) (.seq (.af [ga 23 (.ld (some 63)) [.t 6],ga 24 (.ld (some 63)) [.t 2],ga 25 (.call 53) [.t 23,.t 24],ga 26 (.ext 0) [.t 25],ga 27 (.ext 1) [.t 25],gn (.aP (some 63)) [.t 4,.t 26],gm 5 27]) .ret)))))
abbrev F66 :Go.Vm.Fn:=⟨28,B66,[(.cell 4 (some 63)),(.t 5)],true⟩
theorem VP :bC Tryz.prog ob Tryz.f66 true=some F66:=by kernel_rfl
theorem VQ :B66.fits 28=true:=by kernel_rfl
def B67 :Go.Vm.C:=(.seq (.af [ga 2 (.dj (some 22) (aK 22)) []]) (.seq (.af [gm 3 0,ga 4 (.call 55) [.t 3],gn (.aP (some 22)) [.t 2,.t 4]]) .ret))
abbrev F67 :Go.Vm.Fn:=⟨5,B67,[(.cell 2 (some 22))],true⟩
theorem VR :bC Tryz.prog ob Tryz.f67 true=some F67:=by kernel_rfl
theorem VS :B67.fits 5=true:=by kernel_rfl
def OJ :Go.Vm.C:=(.loop (.seq (.seq (.af [gm 18 9,gm 19 8,ga 20 .len [.t 19],ga 21 (.bin .num .lss) [.t 18,.t 20]]) (.cond (.t 21) .skip (.exit 0))) (.seq (.block 1 (.af [gm 24 8,gm 25 9,gm 26 8,gm 27 9,ga 28 (.dz none) [.t 26,.t 27],ga 29 (.ld none) [.t 28],gm 30 7,gm 31 9,ga 32 (.dz none) [.t 30,.t 31],ga 33 (.ld none) [.t 32],ga 34 (.bin .num .xor) [.t 29,.t 33],ga 35 (.dz none) [.t 24,.t 25],gn (.aP none) [.t 35,.t 34]])) (.af [gm 22 9,ga 23 (.bin .num .add) [.t 22,kc 1],gm 9 23]))))
def OL :Go.Vm.C:=(.seq (.af [gm 36 8,gm 6 36]) .ret)
def B68 :Go.Vm.C:=(.seq (.af [ga 3 (.box (some 22)) [.t 0],ga 6 .mv [(.c (.aq true none []))]]) (.seq (.af [ga 10 (.ld (some 22)) [.t 3],gm 11 1,gm 12 2,ga 13 .len [.t 12],ga 14 (.call 112) [.t 10,.t 11,.t 13],gm 7 14]) (.seq (.af [ga 15 (.jg none [] []) [],gm 16 2,ga 17 (.app none 1) [.t 15,.t 16],gm 8 17]) (.seq (.seq (.af [ga 9 .mv [kc 0]]) (.block 0 OJ)) OL))))
abbrev F68 :Go.Vm.Fn:=⟨37,B68,[(.t 6)],false⟩
theorem VT :bC Tryz.prog ob Tryz.f68 false=some F68:=by kernel_rfl
theorem VU :B68.fits 37=true:=by kernel_rfl
def B69 :Go.Vm.C:=(.seq (.af [ga 4 (.box (some 22)) [.t 0],ga 8 .mv [(.c (.aq true none []))]]) (.seq (.af [gm 11 1,ga 12 (.call 30) [.t 11],gm 13 2,ga 14 .len [.t 13],ga 15 (.gI .u64) [.t 14],ga 16 (.call 30) [.t 15],ga 17 (.app none 1) [.t 12,.t 16],gm 9 17]) (.seq (.af [ga 18 (.ld (some 22)) [.t 4],ga 19 (.ld (some 22)) [.t 4],ga 20 (.call 113) [.t 18,.t 19],gm 21 9,gm 22 2,ga 23 (.app none 1) [.t 21,.t 22],gm 24 3,ga 25 (.app none 1) [.t 23,.t 24],ga 26 (.call 70) [.t 20,.t 25],ga 10 (.dj (some 22) (aK 22)) [],gn (.aP (some 22)) [.t 10,.t 26]]) (.seq (.af [ga 27 (.jg none [] []) [],ga 28 (.mC 22 none false true) [.t 10,kc 8],ga 29 (.app none 1) [.t 27,.t 28],gm 8 29]) .ret))))
abbrev F69 :Go.Vm.Fn:=⟨30,B69,[(.t 8)],false⟩
theorem VV :bC Tryz.prog ob Tryz.f69 false=some F69:=by kernel_rfl
theorem VW :B69.fits 30=true:=by kernel_rfl
def B70 :Go.Vm.C:=(.seq (.af [ga 2 (.box (some 22)) [.t 0],ga 4 (.dj (some 22) (aK 22)) []]) (.seq (.af [ga 5 (.jg none [] []) [],ga 6 (.mC 22 none false false) [.t 2],ga 7 (.app none 1) [.t 5,.t 6],gm 8 1,ga 9 (.app none 1) [.t 7,.t 8],ga 10 (.call 18) [.t 9],gn (.aP (some 22)) [.t 4,.t 10]]) .ret))
abbrev F70 :Go.Vm.Fn:=⟨11,B70,[(.cell 4 (some 22))],true⟩
theorem VX :bC Tryz.prog ob Tryz.f70 true=some F70:=by kernel_rfl
theorem VY :B70.fits 11=true:=by kernel_rfl
def OM :Go.Vm.C:=(.loop (.seq (.af [ga 21 (.bin .num .lss) [.t 20,.t 19]]) (.seq (.cond (.t 21) .skip (.exit 0)) (.seq (.block 1 (.seq (.af [gm 22 20,ga 23 (.dz (some 96)) [.t 18,.t 20],ga 24 (.ld (some 96)) [.t 23],ga 5 (.dj (some 96) (.st 96 [ki,ku,ki,(.s (.pointer none))])) [],gm 4 22,gn (.aP (some 96)) [.t 5,.t 24]]) (.bc [gl 0 1 (gm 25 3),gl 0 1 (gm 26 4),gl 0 1 (ga 27 (.fa 96 0) [.t 5]),gl 0 1 (ga 28 (.ld none) [.t 27]),gl 0 1 (ga 29 (.fa 96 1) [.t 5]),gl 0 1 (ga 30 (.ld none) [.t 29]),gl 0 1 (ga 31 (.fa 96 2) [.t 5]),gl 0 1 (ga 32 (.ld none) [.t 31]),gl 0 0 (ga 33 (.fa 96 3) [.t 5]),gl 0 0 (ga 34 (.ld none) [.t 33]),gl 0 1 (ga 35 (.call 115) [.t 34]),gl 1 2 (ga 36 (.call 114) [.t 25,.t 26,.t 28,.t 30,.t 32,.t 35])]))) (.af [ga 37 (.bin .num .add) [.t 20,kc 1],gm 20 37])))))
def ON :Go.Vm.C:=(.seq (.af [gm 38 3,gm 2 38]) .ret)
def B71 :Go.Vm.C:=(.seq (.af [ga 2 .mv [(.c (.s (.pointer none)))]]) (.seq (.af [gm 6 0,ga 7 .bL [.t 6],ga 8 (.fa 92 0) [.t 7],ga 9 (.ld none) [.t 8],gm 10 0,ga 11 .bL [.t 10],ga 12 (.fa 92 1) [.t 11],ga 13 (.ld none) [.t 12],ga 14 (.call 15) [.t 9,.t 13],gm 3 14]) (.seq (.seq (.af [gm 15 0,ga 16 .bL [.t 15],ga 17 (.fa 92 2) [.t 16],ga 18 (.ld none) [.t 17],ga 19 .len [.t 18],ga 20 .mv [kc 0]]) (.block 0 OM)) ON)))
abbrev F71 :Go.Vm.Fn:=⟨39,B71,[(.t 2)],false⟩
theorem VZ :bC Tryz.prog ob Tryz.f71 false=some F71:=by kernel_rfl
theorem V0 :B71.fits 39=true:=by kernel_rfl
def B72 :Go.Vm.C:=(.seq (.af [ga 3 (.box (some 22)) [.t 0],ga 6 .mv [(.c (.aq true none []))],ga 7 .mv [kc 0]]) (.seq (.block 0 (.seq (.af [gm 10 2,ga 11 .len [.t 10],ga 12 (.bin .num .lss) [.t 11,kc 16],gm 9 12]) (.cond (.t 9) (.seq (.af [ga 6 .mv [(.c (.aq true none []))],ga 7 .mv [kc 12]]) .ret) (.seq (.af [gm 14 2,ga 15 .len [.t 14],ga 16 (.bin .num .gtr) [.t 15,kc 8192],gm 13 16]) (.cond (.t 13) (.seq (.af [ga 6 .mv [(.c (.aq true none []))],ga 7 .mv [kc 3]]) .ret) .skip))))) (.seq (.af [gm 17 2,ga 18 (.call 116) [.t 17],gm 8 18]) (.seq (.bc [gl 0 0 (ga 19 (.ld (some 22)) [.t 3]),gl 0 0 (gm 20 8),gl 0 0 (ga 21 (.eB 118) [.t 19,.t 20]),gl 0 0 (gm 22 8),gl 0 0 (gm 23 1),gl 0 0 (ga 24 (.uY none [(.s (.int .u8 0))] [0]) [.t 23]),gl 0 0 (gm 25 2),gl 0 0 (ga 26 (.j2 none true false false) [.t 25,kc 8]),gl 0 0 (ga 27 (.eB 117) [.t 21,.t 22,.t 24,.t 26]),gl 0 0 (ga 28 (.ext 0) [.t 27]),gl 0 0 (ga 29 (.ext 1) [.t 27]),gl 0 0 (gm 6 28),gl 0 0 (gm 7 29)]) .ret))))
abbrev F72 :Go.Vm.Fn:=⟨30,B72,[(.t 6),(.t 7)],true⟩
theorem V1 :bC Tryz.prog ob Tryz.f72 true=some F72:=by kernel_rfl
theorem V2 :B72.fits 30=true:=by kernel_rfl
def B73 :Go.Vm.C:=(.seq (.af [ga 2 (.dj (some 33) (.st 33 [ki,(z4 28),(aK 22),kx,ki,(aK 22),(aK 22),ki,ku])) [],ga 3 .mv [kc 0]]) (.seq (.af [gm 6 0,ga 7 (.cG 160 [(.aq true none []),(.s (.bool false))] [0]) [.t 6],ga 8 (.box (some 160)) [.t 7],gm 4 8]) (.seq (.af [gm 9 4,ga 10 (.call 119) [.t 9],ga 11 (.cG 33 [ki,(z4 28),(aK 22),kx,ki,(aK 22),(aK 22),ki,ku] [0]) [.t 10],ga 5 (.dj (some 33) (.st 33 [ki,(z4 28),(aK 22),kx,ki,(aK 22),(aK 22),ki,ku])) [],gn (.aP (some 33)) [.t 5,.t 11]]) (.seq (.af [gm 12 4,ga 13 (.call 120) [.t 12],gm 14 4,ga 15 (.call 121) [.t 14],ga 16 (.fa 33 1) [.t 5],gn (.aP (some 28)) [.t 16,.t 13],ga 17 (.fa 33 2) [.t 5],gn (.aP (some 22)) [.t 17,.t 15]]) (.seq (.af [gm 18 4,ga 19 (.call 119) [.t 18],ga 20 (.fa 33 4) [.t 5],gn (.aP none) [.t 20,.t 19]]) (.seq (.af [gm 21 4,ga 22 (.call 121) [.t 21],gm 23 4,ga 24 (.call 121) [.t 23],ga 25 (.fa 33 5) [.t 5],gn (.aP (some 22)) [.t 25,.t 22],ga 26 (.fa 33 6) [.t 5],gn (.aP (some 22)) [.t 26,.t 24]]) (.seq (.af [gm 27 4,ga 28 (.call 119) [.t 27],ga 29 (.fa 33 7) [.t 5],gn (.aP none) [.t 29,.t 28]]) (.seq (.af [gm 30 4,ga 31 (.call 122) [.t 30],ga 32 (.fa 33 8) [.t 5],gn (.aP none) [.t 32,.t 31]]) (.seq (.af [gm 33 4,ga 34 (.call 123) [.t 33],ga 35 (.fa 33 3) [.t 5],gn (.aP none) [.t 35,.t 34]]) (.seq (.seq (.af [gm 36 4,ga 37 (.call 124) [.t 36],gm 38 37,gw 38 false 39 (.ld (some 33)) [.t 5],gw 38 false 40 (.call 74) [.t 39],gw 38 false 41 (.un .not) [.t 40],ga 42 .pick [.t 38,kb true,.t 41]]) (.cond (.t 42) (.seq (.af [ga 43 (.cG 33 [ki,(z4 28),(aK 22),kx,ki,(aK 22),(aK 22),ki,ku] []) [],gn (.aP (some 33)) [.t 2,.t 43],ga 3 .mv [kc 12]]) .ret) .skip)) (.seq (.af [ga 44 (.ld (some 33)) [.t 5],gn (.aP (some 33)) [.t 2,.t 44],ga 3 .mv [kc 0]]) .ret)))))))))))
abbrev F73 :Go.Vm.Fn:=⟨45,B73,[(.cell 2 (some 33)),(.t 3)],true⟩
theorem V3 :bC Tryz.prog ob Tryz.f73 true=some F73:=by kernel_rfl
theorem V4 :B73.fits 45=true:=by kernel_rfl
def B74 :Go.Vm.C:=(.seq (.af [ga 1 (.box (some 33)) [.t 0],ga 2 .mv [kb false]]) (.seq (.seq (.af [ga 3 (.fa 33 7) [.t 1],ga 4 (.ld none) [.t 3],ga 5 (.fa 33 8) [.t 1],ga 6 (.ld none) [.t 5],ga 7 (.call 125) [.t 4,.t 6],ga 8 (.un .not) [.t 7]]) (.cond (.t 8) (.seq (.af [ga 2 .mv [kb false]]) .ret) .skip)) (.seq (.seq (.af [ga 9 (.fa 33 0) [.t 1],ga 10 (.ld none) [.t 9]]) (.block 0 (.seq (.seq (.af [ga 12 (.bin .num .eql) [.t 10,kc 1],gm 11 12]) (.cond (.t 11) .skip (.af [ga 13 (.bin .num .eql) [.t 10,kc 3],gm 11 13]))) (.cond (.t 11) (.seq (.af [ga 14 (.fa 33 4) [.t 1],ga 15 (.ld none) [.t 14],ga 16 (.bin .num .geq) [.t 15,kc 1],gm 17 16,gw 17 true 18 (.fa 33 4) [.t 1],gw 17 true 19 (.ld none) [.t 18],gw 17 true 20 (.bin .num .leq) [.t 19,kc 32],ga 21 .pick [.t 17,.t 20,kb false],gm 22 21,gw 22 true 23 (.fa 33 3) [.t 1],gw 22 true 24 (.ld none) [.t 23],gw 22 true 25 .len [.t 24],gw 22 true 26 (.bin .num .leq) [.t 25,kc 64],ga 27 .pick [.t 22,.t 26,kb false],gm 2 27]) .ret) (.seq (.af [ga 29 (.bin .num .eql) [.t 10,kc 2],gm 28 29]) (.cond (.t 28) (.seq (.af [ga 30 (.fa 33 4) [.t 1],ga 31 (.ld none) [.t 30],ga 32 (.bin .num .eql) [.t 31,kc 0],gm 33 32,gw 33 true 34 (.fa 33 5) [.t 1],gw 33 true 35 (.ld (some 22)) [.t 34],gw 33 true 36 (.gJ 22 [(.s (.int .u8 0)),(.s (.int .u8 0)),(.s (.int .u8 0)),(.s (.int .u8 0)),(.s (.int .u8 0)),(.s (.int .u8 0)),(.s (.int .u8 0)),(.s (.int .u8 0)),(.s (.int .u8 0)),(.s (.int .u8 0)),(.s (.int .u8 0)),(.s (.int .u8 0)),(.s (.int .u8 0)),(.s (.int .u8 0)),(.s (.int .u8 0)),(.s (.int .u8 0))] []) [],gw 33 true 37 (.wX 22 .u8 false) [.t 35,.t 36],ga 38 .pick [.t 33,.t 37,kb false],gm 39 38,gw 39 true 40 (.fa 33 3) [.t 1],gw 39 true 41 (.ld none) [.t 40],gw 39 true 42 .len [.t 41],gw 39 true 43 (.bin .num .eql) [.t 42,kc 0],ga 44 .pick [.t 39,.t 43,kb false],gm 2 44]) .ret) (.seq (.af [ga 46 (.bin .num .eql) [.t 10,kc 4],gm 45 46]) (.cond (.t 45) (.seq (.af [ga 47 (.fa 33 4) [.t 1],ga 48 (.ld none) [.t 47],ga 49 (.bin .num .eql) [.t 48,kc 0],gm 50 49,gw 50 true 51 (.fa 33 2) [.t 1],gw 50 true 52 (.ld (some 22)) [.t 51],gw 50 true 53 (.gJ 22 [(.s (.int .u8 0)),(.s (.int .u8 0)),(.s (.int .u8 0)),(.s (.int .u8 0)),(.s (.int .u8 0)),(.s (.int .u8 0)),(.s (.int .u8 0)),(.s (.int .u8 0)),(.s (.int .u8 0)),(.s (.int .u8 0)),(.s (.int .u8 0)),(.s (.int .u8 0)),(.s (.int .u8 0)),(.s (.int .u8 0)),(.s (.int .u8 0)),(.s (.int .u8 0))] []) [],gw 50 true 54 (.wX 22 .u8 false) [.t 52,.t 53],ga 55 .pick [.t 50,.t 54,kb false],gm 56 55,gw 56 true 57 (.fa 33 3) [.t 1],gw 56 true 58 (.ld none) [.t 57],gw 56 true 59 .len [.t 58],gw 56 true 60 (.bin .num .eql) [.t 59,kc 0],ga 61 .pick [.t 56,.t 60,kb false],gm 2 61]) .ret) .skip)))))))) (.seq (.af [ga 2 .mv [kb false]]) .ret))))
abbrev F74 :Go.Vm.Fn:=⟨62,B74,[(.t 2)],true⟩
theorem V5 :bC Tryz.prog ob Tryz.f74 true=some F74:=by kernel_rfl
theorem V6 :B74.fits 62=true:=by kernel_rfl
def B75 :Go.Vm.C:=(.seq (.af [ga 4 .mv [kc 0],ga 5 .mv [(.c ku)],ga 6 .mv [kc 0]]) (.seq (.seq (.af [gm 8 1,ga 9 (.call 88) [.t 8],ga 10 (.un .not) [.t 9]]) (.cond (.t 10) (.seq (.af [ga 4 .mv [kc 0],ga 5 .mv [(.c ku)],ga 6 .mv [kc 0]]) .ret) .skip)) (.seq (.af [gm 11 0,ga 12 .bL [.t 11],ga 13 (.fa 92 2) [.t 12],ga 14 (.ld none) [.t 13],gm 15 1,ga 16 (.dz (some 96)) [.t 14,.t 15],ga 17 (.ld (some 96)) [.t 16],ga 7 (.dj (some 96) (.st 96 [ki,ku,ki,(.s (.pointer none))])) [],gn (.aP (some 96)) [.t 7,.t 17]]) (.seq (.af [ga 18 (.fa 96 0) [.t 7],ga 19 (.ld none) [.t 18],ga 20 (.fa 96 1) [.t 7],ga 21 (.ld none) [.t 20],ga 22 (.fa 96 2) [.t 7],ga 23 (.ld none) [.t 22],gm 4 19,gm 5 21,gm 6 23]) .ret))))
abbrev F75 :Go.Vm.Fn:=⟨24,B75,[(.t 4),(.t 5),(.t 6)],true⟩
theorem V7 :bC Tryz.prog ob Tryz.f75 true=some F75:=by kernel_rfl
theorem V8 :B75.fits 24=true:=by kernel_rfl
def B76 :Go.Vm.C:=(.seq (.af [ga 3 (.box (some 28)) [.t 1],ga 4 (.dj (some 37) (.st 37 [(z4 28),ku,(aK 22),kx,ki,ki,(aK 22),(.s (.bool false)),(.s (.bool false))])) [],ga 5 .mv [kb false]]) (.seq (.bc [gl 0 1 (gm 7 0),gl 0 1 (ga 8 .bL [.t 7]),gl 0 1 (ga 9 (.fa 92 2) [.t 8]),gl 0 1 (ga 10 (.ld none) [.t 9]),gl 0 1 (ga 11 (.ld (some 28)) [.t 3]),gl 0 1 (ga 12 (.eB 59) [.t 11]),gl 0 1 (ga 13 (.dz (some 96)) [.t 10,.t 12]),gl 0 1 (ga 14 (.ld (some 96)) [.t 13]),gl 0 1 (ga 6 (.dj (some 96) (.st 96 [ki,ku,ki,(.s (.pointer none))])) []),gl 1 2 (gn (.aP (some 96)) [.t 6,.t 14])]) (.seq (.seq (.af [ga 15 (.fa 96 0) [.t 6],ga 16 (.ld none) [.t 15],ga 17 (.bin .num .eql) [.t 16,kc 0]]) (.cond (.t 17) (.seq (.af [ga 18 (.cG 37 [(z4 28),ku,(aK 22),kx,ki,ki,(aK 22),(.s (.bool false)),(.s (.bool false))] []) [],gn (.aP (some 37)) [.t 4,.t 18],ga 5 .mv [kb false]]) .ret) .skip)) (.seq (.af [ga 19 (.fa 96 3) [.t 6],ga 20 (.ld none) [.t 19],ga 21 (.ld (some 28)) [.t 3],ga 22 (.call 94) [.t 20,.t 21],ga 23 (.ext 0) [.t 22],ga 24 (.ext 1) [.t 22],gn (.aP (some 37)) [.t 4,.t 23],gm 5 24]) .ret))))
abbrev F76 :Go.Vm.Fn:=⟨25,B76,[(.cell 4 (some 37)),(.t 5)],true⟩
theorem V9 :bC Tryz.prog ob Tryz.f76 true=some F76:=by kernel_rfl
theorem Wa :B76.fits 25=true:=by kernel_rfl
def B77 :Go.Vm.C:=(.seq (.af [ga 2 (.box (some 37)) [.t 0],ga 3 (.box (some 33)) [.t 1],ga 4 (.dj (some 37) (.st 37 [(z4 28),ku,(aK 22),kx,ki,ki,(aK 22),(.s (.bool false)),(.s (.bool false))])) [],ga 5 (.dj (some 45) (.st 45 [ki,(z4 28),ku,ki,kx,ki,ku])) [],ga 6 .mv [kb false]]) (.seq (.af [ga 9 (.ld (some 37)) [.t 2],ga 10 (.cG 37 [(z4 28),ku,(aK 22),kx,ki,ki,(aK 22),(.s (.bool false)),(.s (.bool false))] []) [],ga 11 (.call 126) [.t 9,.t 10],gm 7 11]) (.seq (.seq (.af [ga 12 (.ld (some 33)) [.t 3],ga 13 (.call 74) [.t 12],ga 14 (.un .not) [.t 13],gm 15 14,gw 15 false 16 .mv [.t 7],gw 15 false 17 (.un .not) [.t 16],gw 15 false 18 .mv [.t 17],gw 18 true 19 (.ld (some 37)) [.t 2],gw 18 true 20 (.call 92) [.t 19],gw 18 true 21 (.un .not) [.t 20],gw 18 true 22 .mv [.t 21],gw 22 false 23 (.fa 37 0) [.t 2],gw 22 false 24 (.ld (some 28)) [.t 23],gw 22 false 25 (.fa 33 1) [.t 3],gw 22 false 26 (.ld (some 28)) [.t 25],gw 22 false 27 (.wX 28 .u8 true) [.t 24,.t 26],gw 18 true 28 .pick [.t 22,kb true,.t 27],gw 15 false 29 .pick [.t 18,.t 28,kb false],ga 30 .pick [.t 15,kb true,.t 29]]) (.cond (.t 30) (.seq (.af [ga 31 (.cG 37 [(z4 28),ku,(aK 22),kx,ki,ki,(aK 22),(.s (.bool false)),(.s (.bool false))] []) [],ga 32 (.cG 45 [ki,(z4 28),ku,ki,kx,ki,ku] [0]) [kc 12],gn (.aP (some 37)) [.t 4,.t 31],gn (.aP (some 45)) [.t 5,.t 32],ga 6 .mv [kb false]]) .ret) .skip)) (.seq (.af [ga 33 (.ld (some 37)) [.t 2],ga 34 (.call 127) [.t 33],gn (.aP (some 37)) [.t 2,.t 34]]) (.seq (.af [ga 35 (.fa 33 1) [.t 3],ga 36 (.ld (some 28)) [.t 35],ga 37 (.fa 37 1) [.t 2],ga 38 (.ld none) [.t 37],ga 39 (.fa 33 7) [.t 3],ga 40 (.ld none) [.t 39],ga 41 (.fa 33 8) [.t 3],ga 42 (.ld none) [.t 41],ga 43 (.cG 45 [ki,(z4 28),ku,ki,kx,ki,ku] [1,2,5,6]) [.t 36,.t 38,.t 40,.t 42],ga 8 (.dj (some 45) (.st 45 [ki,(z4 28),ku,ki,kx,ki,ku])) [],gn (.aP (some 45)) [.t 8,.t 43]]) (.seq (.seq (.af [ga 44 (.fa 33 0) [.t 3],ga 45 (.ld none) [.t 44],ga 46 (.bin .num .eql) [.t 45,kc 1]]) (.cond (.t 46) (.seq (.seq (.af [gm 47 7,ga 48 (.un .not) [.t 47],gm 49 48,gw 49 true 50 (.fa 37 7) [.t 2],gw 49 true 51 (.ld none) [.t 50],gw 49 true 52 (.un .not) [.t 51],ga 53 .pick [.t 49,.t 52,kb false]]) (.cond (.t 53) (.seq (.af [ga 54 (.fa 45 0) [.t 8],gn (.aP none) [.t 54,kc 14]]) (.seq (.bc [gl 0 0 (ga 55 (.ld (some 37)) [.t 2]),gl 0 1 (ga 56 (.ld (some 45)) [.t 8]),gl 0 1 (gn (.aP (some 37)) [.t 4,.t 55]),gl 1 2 (gn (.aP (some 45)) [.t 5,.t 56]),gl 2 2 (ga 6 .mv [kb false])]) .ret)) .skip)) (.seq (.af [ga 57 (.ld (some 37)) [.t 2],ga 58 (.ld (some 33)) [.t 3],ga 59 (.ld (some 45)) [.t 8],ga 60 (.call 128) [.t 57,.t 58,.t 59],ga 61 (.ext 0) [.t 60],ga 62 (.ext 1) [.t 60],ga 63 (.ext 2) [.t 60],gn (.aP (some 37)) [.t 4,.t 61],gn (.aP (some 45)) [.t 5,.t 62],gm 6 63]) .ret)) .skip)) (.seq (.seq (.af [ga 64 (.ld (some 37)) [.t 2],ga 65 (.ld (some 33)) [.t 3],ga 66 (.call 129) [.t 64,.t 65],ga 67 (.fa 45 0) [.t 8],gn (.aP none) [.t 67,.t 66]]) (.seq (.af [ga 68 (.fa 45 0) [.t 8],ga 69 (.ld none) [.t 68],ga 70 (.bin .num .neq) [.t 69,kc 0]]) (.cond (.t 70) (.seq (.bc [gl 0 0 (ga 71 (.ld (some 37)) [.t 2]),gl 0 1 (ga 72 (.ld (some 45)) [.t 8]),gl 0 1 (gn (.aP (some 37)) [.t 4,.t 71]),gl 1 2 (gn (.aP (some 45)) [.t 5,.t 72]),gl 2 2 (ga 6 .mv [kb false])]) .ret) .skip))) (.seq (.seq (.af [ga 73 (.fa 33 0) [.t 3],ga 74 (.ld none) [.t 73]]) (.block 0 (.seq (.af [ga 76 (.bin .num .eql) [.t 74,kc 2],gm 75 76]) (.cond (.t 75) (.seq (.af [ga 77 (.ld (some 37)) [.t 2],ga 78 (.ld (some 33)) [.t 3],ga 79 (.ld (some 45)) [.t 8],ga 80 (.call 130) [.t 77,.t 78,.t 79],ga 81 (.ext 0) [.t 80],ga 82 (.ext 1) [.t 80],ga 83 (.ext 2) [.t 80],gn (.aP (some 37)) [.t 4,.t 81],gn (.aP (some 45)) [.t 5,.t 82],gm 6 83]) .ret) (.seq (.af [ga 85 (.bin .num .eql) [.t 74,kc 3],gm 84 85]) (.cond (.t 84) (.seq (.af [ga 86 (.ld (some 37)) [.t 2],ga 87 (.ld (some 33)) [.t 3],ga 88 (.ld (some 45)) [.t 8],ga 89 (.call 128) [.t 86,.t 87,.t 88],ga 90 (.ext 0) [.t 89],ga 91 (.ext 1) [.t 89],ga 92 (.ext 2) [.t 89],gn (.aP (some 37)) [.t 4,.t 90],gn (.aP (some 45)) [.t 5,.t 91],gm 6 92]) .ret) .skip)))))) (.seq (.bc [gl 0 0 (ga 93 (.ld (some 37)) [.t 2]),gl 0 1 (ga 94 (.call 131) [.t 93,kb false]),gl 0 2 (ga 95 (.ld (some 45)) [.t 8]),gl 1 2 (gn (.aP (some 37)) [.t 4,.t 94]),gl 2 3 (gn (.aP (some 45)) [.t 5,.t 95]),gl 3 3 (ga 6 .mv [kb true])]) .ret)))))))))
abbrev F77 :Go.Vm.Fn:=⟨96,B77,[(.cell 4 (some 37)),(.cell 5 (some 45)),(.t 6)],true⟩
theorem Wb :bC Tryz.prog ob Tryz.f77 true=some F77:=by kernel_rfl
theorem Wc :B77.fits 96=true:=by kernel_rfl
def B78 :Go.Vm.C:=(.seq (.af [ga 4 .mv [(.c (.aq true (some 37) []))]]) (.seq (.seq (.af [gm 5 1,ga 6 (.call 88) [.t 5],ga 7 (.un .not) [.t 6],gm 8 7,gw 8 false 9 .mv [.t 0],gw 8 false 10 .bL [.t 9],gw 8 false 11 (.fa 92 2) [.t 10],gw 8 false 12 (.ld none) [.t 11],gw 8 false 13 .mv [.t 1],gw 8 false 14 (.dz (some 96)) [.t 12,.t 13],gw 8 false 15 (.fa 96 0) [.t 14],gw 8 false 16 (.ld none) [.t 15],gw 8 false 17 (.bin .num .eql) [.t 16,kc 0],ga 18 .pick [.t 8,kb true,.t 17]]) (.cond (.t 18) (.seq (.af [ga 4 .mv [(.c (.aq true (some 37) []))]]) .ret) .skip)) (.seq (.af [gm 19 0,ga 20 .bL [.t 19],ga 21 (.fa 92 2) [.t 20],ga 22 (.ld none) [.t 21],gm 23 1,ga 24 (.dz (some 96)) [.t 22,.t 23],ga 25 (.fa 96 3) [.t 24],ga 26 (.ld none) [.t 25],ga 27 (.call 115) [.t 26],gm 4 27]) .ret)))
abbrev F78 :Go.Vm.Fn:=⟨28,B78,[(.t 4)],true⟩
theorem Wd :bC Tryz.prog ob Tryz.f78 true=some F78:=by kernel_rfl
theorem We :B78.fits 28=true:=by kernel_rfl
def B79 :Go.Vm.C:=(.seq (.af [ga 1 (.box (some 45)) [.t 0],ga 2 .mv [(.c (.aq true none []))],ga 3 .mv [kc 0]]) (.seq (.seq (.af [ga 4 (.ld (some 45)) [.t 1],ga 5 (.call 132) [.t 4],ga 6 (.un .not) [.t 5]]) (.cond (.t 6) (.seq (.af [ga 2 .mv [(.c (.aq true none []))],ga 3 .mv [kc 1]]) .ret) .skip)) (.seq (.bc [gl 0 2 (ga 7 (.fa 45 0) [.t 1]),gl 0 2 (ga 8 (.ld none) [.t 7]),gl 0 2 (ga 9 (.gI .u8) [.t 8]),gl 0 2 (ga 10 (.uY none [(.s (.int .u8 0))] [0]) [.t 9]),gl 0 2 (ga 11 (.fa 45 1) [.t 1]),gl 0 2 (ga 12 (.mC 28 none false false) [.t 11]),gl 0 0 (ga 13 (.fa 45 2) [.t 1]),gl 0 0 (ga 14 (.ld none) [.t 13]),gl 0 1 (ga 15 (.call 99) [.t 14]),gl 0 2 (ga 16 (.fa 45 3) [.t 1]),gl 0 2 (ga 17 (.ld none) [.t 16]),gl 0 2 (ga 18 (.gI .u8) [.t 17]),gl 0 2 (ga 19 (.fa 45 5) [.t 1]),gl 0 2 (ga 20 (.ld none) [.t 19]),gl 0 2 (ga 21 (.gI .u8) [.t 20]),gl 0 2 (ga 22 (.uY none [(.s (.int .u8 0)),(.s (.int .u8 0))] [0,1]) [.t 18,.t 21]),gl 0 1 (ga 23 (.fa 45 6) [.t 1]),gl 0 1 (ga 24 (.ld none) [.t 23]),gl 1 2 (ga 25 (.call 99) [.t 24]),gl 0 2 (ga 26 (.fa 45 4) [.t 1]),gl 0 2 (ga 27 (.ld none) [.t 26]),gl 0 2 (ga 28 .len [.t 27]),gl 0 2 (ga 29 (.gI .u8) [.t 28]),gl 0 2 (ga 30 (.uY none [(.s (.int .u8 0))] [0]) [.t 29]),gl 0 2 (ga 31 (.fa 45 4) [.t 1]),gl 0 2 (ga 32 (.ld none) [.t 31]),gl 2 2 (ga 33 (.uY none [kx,kx,kx,kx,kx,kx,kx] [0,1,2,3,4,5,6]) [.t 10,.t 12,.t 15,.t 22,.t 25,.t 30,.t 32]),gl 2 2 (ga 34 (.eB 133) [.t 33]),gl 2 2 (gm 2 34),gl 2 2 (ga 3 .mv [kc 0])]) .ret)))
abbrev F79 :Go.Vm.Fn:=⟨35,B79,[(.t 2),(.t 3)],true⟩
theorem Wf :bC Tryz.prog ob Tryz.f79 true=some F79:=by kernel_rfl
theorem Wg :B79.fits 35=true:=by kernel_rfl
def B80 :Go.Vm.C:=(.seq (.af [ga 4 (.box (some 22)) [.t 0],ga 8 .mv [(.c (.aq true none []))],ga 9 .mv [kc 0]]) (.seq (.seq (.af [gm 10 3,ga 11 .len [.t 10],ga 12 (.bin .num .gtr) [.t 11,kc 8176]]) (.cond (.t 12) (.seq (.af [ga 8 .mv [(.c (.aq true none []))],ga 9 .mv [kc 3]]) .ret) .skip)) (.seq (.bc [gl 0 0 (gm 13 1),gl 0 1 (ga 14 (.call 99) [.t 13]),gl 0 1 (ga 15 (.ld (some 22)) [.t 4]),gl 0 1 (gm 16 1),gl 1 1 (ga 17 (.eB 118) [.t 15,.t 16]),gl 0 1 (gm 18 1),gl 0 1 (gm 19 2),gl 0 1 (ga 20 (.uY none [(.s (.int .u8 0))] [0]) [.t 19]),gl 0 1 (gm 21 3),gl 1 1 (ga 22 (.eB 52) [.t 17,.t 18,.t 20,.t 21]),gl 1 2 (ga 23 (.app none 1) [.t 14,.t 22]),gl 2 2 (gm 8 23),gl 2 2 (ga 9 .mv [kc 0])]) .ret)))
abbrev F80 :Go.Vm.Fn:=⟨24,B80,[(.t 8),(.t 9)],true⟩
theorem Wh :bC Tryz.prog ob Tryz.f80 true=some F80:=by kernel_rfl
theorem Wi :B80.fits 24=true:=by kernel_rfl
def OO :Go.Vm.C:=(.loop (.seq (.seq (.af [gm 5 4,ga 6 (.bin .num .lss) [.t 5,kc 8]]) (.cond (.t 6) .skip (.exit 0))) (.seq (.block 1 (.af [gm 9 3,ga 10 (.bin .num .mul) [.t 9,(.c (.s (.int .u64 256)))],gm 11 0,gm 12 4,ga 13 (.dz none) [.t 11,.t 12],ga 14 (.ld none) [.t 13],ga 15 (.gI .u64) [.t 14],ga 16 (.bin .num .add) [.t 10,.t 15],gm 3 16])) (.af [gm 7 4,ga 8 (.bin .num .add) [.t 7,kc 1],gm 4 8]))))
def OP :Go.Vm.C:=(.seq (.af [gm 17 3,gm 2 17]) .ret)
def B81 :Go.Vm.C:=(.seq (.af [ga 2 .mv [(.c ku)]]) (.seq (.af [ga 3 .mv [(.c ku)]]) (.seq (.seq (.af [ga 4 .mv [kc 0]]) (.block 0 OO)) OP)))
abbrev F81 :Go.Vm.Fn:=⟨18,B81,[(.t 2)],true⟩
theorem Wj :bC Tryz.prog ob Tryz.f81 true=some F81:=by kernel_rfl
theorem Wk :B81.fits 18=true:=by kernel_rfl
def B82 :Go.Vm.C:=(.seq (.af [ga 4 (.box (some 22)) [.t 0],ga 8 .mv [(.c (.aq true none []))],ga 9 .mv [kc 0]]) (.seq (.seq (.af [gm 11 3,ga 12 .len [.t 11],ga 13 (.bin .num .lss) [.t 12,kc 8],gm 14 13,gw 14 false 15 .mv [.t 3],gw 14 false 16 .len [.t 15],gw 14 false 17 (.bin .num .gtr) [.t 16,kc 8192],ga 18 .pick [.t 14,kb true,.t 17],gm 19 18,gw 19 false 20 .mv [.t 2],gw 19 false 21 .len [.t 20],gw 19 false 22 (.bin .num .gtr) [.t 21,kc 8192],ga 23 .pick [.t 19,kb true,.t 22]]) (.cond (.t 23) (.seq (.af [ga 8 .mv [(.c (.aq true none []))],ga 9 .mv [kc 30]]) .ret) .skip)) (.seq (.af [ga 24 (.ld (some 22)) [.t 4],gm 25 1,gm 26 3,gm 27 3,ga 28 .len [.t 27],ga 29 (.bin .num .sub) [.t 28,kc 8],ga 30 (.j2 none false true false) [.t 26,.t 29],ga 31 (.call 68) [.t 24,.t 25,.t 30],gm 10 31]) (.seq (.seq (.bc [gl 0 0 (ga 32 (.ld (some 22)) [.t 4]),gl 0 0 (gm 33 1),gl 0 0 (gm 34 2),gl 0 0 (gm 35 10),gl 0 1 (ga 36 (.call 69) [.t 32,.t 33,.t 34,.t 35]),gl 1 1 (ga 37 .Eb [.t 36]),gl 0 1 (gm 38 3),gl 0 1 (gm 39 3),gl 0 1 (ga 40 .len [.t 39]),gl 0 1 (ga 41 (.bin .num .sub) [.t 40,kc 8]),gl 0 1 (ga 42 (.j2 none true false false) [.t 38,.t 41]),gl 0 1 (ga 43 .Eb [.t 42]),gl 1 1 (ga 44 (.bin .num .neq) [.t 37,.t 43])]) (.cond (.t 44) (.seq (.af [ga 8 .mv [(.c (.aq true none []))],ga 9 .mv [kc 30]]) .ret) .skip)) (.seq (.af [gm 45 10,gm 8 45,ga 9 .mv [kc 0]]) .ret)))))
abbrev F82 :Go.Vm.Fn:=⟨46,B82,[(.t 8),(.t 9)],true⟩
theorem Wl :bC Tryz.prog ob Tryz.f82 true=some F82:=by kernel_rfl
theorem Wm :B82.fits 46=true:=by kernel_rfl
def B83 :Go.Vm.C:=(.seq (.af [ga 2 .mv [kc 0]]) (.seq (.af [gm 3 0,ga 4 (.call 86) [.t 3,kc 1],ga 5 (.dz none) [.t 4,kc 0],ga 6 (.ld none) [.t 5],ga 7 (.gI .i64) [.t 6],gm 2 7]) .ret))
abbrev F83 :Go.Vm.Fn:=⟨8,B83,[(.t 2)],true⟩
theorem Wn :bC Tryz.prog ob Tryz.f83 true=some F83:=by kernel_rfl
theorem Wo :B83.fits 8=true:=by kernel_rfl
def B84 :Go.Vm.C:=(.seq (.af [ga 2 (.dj (some 28) (z4 28)) []]) (.seq (.af [ga 3 (.dj (some 28) (z4 28)) []]) (.seq (.bc [gl 0 1 (ga 4 (.mC 28 none false false) [.t 3]),gl 0 0 (gm 5 0),gl 0 1 (ga 6 (.call 86) [.t 5,kc 4]),gl 1 2 (ga 7 (.cpy none) [.t 4,.t 6])]) (.seq (.af [ga 8 (.ld (some 28)) [.t 3],gn (.aP (some 28)) [.t 2,.t 8]]) .ret))))
abbrev F84 :Go.Vm.Fn:=⟨9,B84,[(.cell 2 (some 28))],true⟩
theorem Wp :bC Tryz.prog ob Tryz.f84 true=some F84:=by kernel_rfl
theorem Wq :B84.fits 9=true:=by kernel_rfl
def OQ :Go.Vm.C:=(.loop (.seq (.seq (.af [gm 8 5,ga 9 (.bin .num .lss) [.t 8,kc 8]]) (.cond (.t 9) .skip (.exit 0))) (.seq (.block 1 (.af [gm 12 4,ga 13 (.bin .num .mul) [.t 12,(.c (.s (.int .u64 256)))],gm 14 3,gm 15 5,ga 16 (.dz none) [.t 14,.t 15],ga 17 (.ld none) [.t 16],ga 18 (.gI .u64) [.t 17],ga 19 (.bin .num .add) [.t 13,.t 18],gm 4 19])) (.af [gm 10 5,ga 11 (.bin .num .add) [.t 10,kc 1],gm 5 11]))))
def OR :Go.Vm.C:=(.seq (.af [gm 20 4,gm 2 20]) .ret)
def B85 :Go.Vm.C:=(.seq (.af [ga 2 .mv [(.c ku)]]) (.seq (.af [gm 6 0,ga 7 (.call 86) [.t 6,kc 8],gm 3 7]) (.seq (.af [ga 4 .mv [(.c ku)]]) (.seq (.seq (.af [ga 5 .mv [kc 0]]) (.block 0 OQ)) OR))))
abbrev F85 :Go.Vm.Fn:=⟨21,B85,[(.t 2)],true⟩
theorem Wr :bC Tryz.prog ob Tryz.f85 true=some F85:=by kernel_rfl
theorem Ws :B85.fits 21=true:=by kernel_rfl
def B86 :Go.Vm.C:=(.seq (.af [ga 4 .mv [(.c (.aq true none []))]]) (.seq (.seq (.af [gm 6 0,ga 7 .bL [.t 6],ga 8 (.fa 132 1) [.t 7],ga 9 (.ld none) [.t 8],gm 10 9,gw 10 false 11 .mv [.t 1],gw 10 false 12 .mv [.t 0],gw 10 false 13 .bL [.t 12],gw 10 false 14 (.fa 132 0) [.t 13],gw 10 false 15 (.ld none) [.t 14],gw 10 false 16 .len [.t 15],gw 10 false 17 (.bin .num .gtr) [.t 11,.t 16],ga 18 .pick [.t 10,kb true,.t 17]]) (.cond (.t 18) (.seq (.af [gm 19 0,ga 20 .bL [.t 19],ga 21 (.fa 132 1) [.t 20],gn (.aP none) [.t 21,kb true]]) (.seq (.af [gm 22 0,ga 23 .bL [.t 22],ga 24 (.fa 132 0) [.t 23],gn (.aP none) [.t 24,(.c (.aq true none []))]]) (.seq (.af [gm 25 1,ga 26 (.mks none (.s (.int .u8 0))) [.t 25,.t 25],gm 4 26]) .ret))) .skip)) (.seq (.af [gm 27 0,ga 28 .bL [.t 27],ga 29 (.fa 132 0) [.t 28],ga 30 (.ld none) [.t 29],gm 31 1,ga 32 (.j2 none false true false) [.t 30,.t 31],gm 5 32]) (.seq (.af [gm 33 0,gm 34 0,ga 35 .bL [.t 34],ga 36 (.fa 132 0) [.t 35],ga 37 (.ld none) [.t 36],gm 38 1,ga 39 (.j2 none true false false) [.t 37,.t 38],ga 40 .bL [.t 33],ga 41 (.fa 132 0) [.t 40],gn (.aP none) [.t 41,.t 39]]) (.seq (.af [ga 42 (.jg none [] []) [],gm 43 5,ga 44 (.app none 1) [.t 42,.t 43],gm 4 44]) .ret)))))
abbrev F86 :Go.Vm.Fn:=⟨45,B86,[(.t 4)],true⟩
theorem Wt :bC Tryz.prog ob Tryz.f86 true=some F86:=by kernel_rfl
theorem OS :B86.fits 45=true:=by kernel_rfl
def B87 :Go.Vm.C:=(.seq (.af [ga 1 (.box (some 45)) [.t 0],ga 2 .mv [kb false]]) (.seq (.af [ga 3 (.fa 45 0) [.t 1],ga 4 (.ld none) [.t 3],ga 5 (.bin .num .geq) [.t 4,kc 0],gm 6 5,gw 6 true 7 (.fa 45 0) [.t 1],gw 6 true 8 (.ld none) [.t 7],gw 6 true 9 (.bin .num .leq) [.t 8,kc 255],ga 10 .pick [.t 6,.t 9,kb false],gm 11 10,gw 11 true 12 (.fa 45 2) [.t 1],gw 11 true 13 (.ld none) [.t 12],gw 11 true 14 (.call 134) [.t 13],ga 15 .pick [.t 11,.t 14,kb false],gm 16 15,gw 16 true 17 (.fa 45 3) [.t 1],gw 16 true 18 (.ld none) [.t 17],gw 16 true 19 (.bin .num .geq) [.t 18,kc 0],ga 20 .pick [.t 16,.t 19,kb false],gm 21 20,gw 21 true 22 (.fa 45 3) [.t 1],gw 21 true 23 (.ld none) [.t 22],gw 21 true 24 (.bin .num .leq) [.t 23,kc 32],ga 25 .pick [.t 21,.t 24,kb false],gm 26 25,gw 26 true 27 (.fa 45 5) [.t 1],gw 26 true 28 (.ld none) [.t 27],gw 26 true 29 (.bin .num .geq) [.t 28,kc 0],ga 30 .pick [.t 26,.t 29,kb false],gm 31 30,gw 31 true 32 (.fa 45 5) [.t 1],gw 31 true 33 (.ld none) [.t 32],gw 31 true 34 (.bin .num .lss) [.t 33,kc 4],ga 35 .pick [.t 31,.t 34,kb false],gm 36 35,gw 36 true 37 (.fa 45 6) [.t 1],gw 36 true 38 (.ld none) [.t 37],gw 36 true 39 (.call 134) [.t 38],ga 40 .pick [.t 36,.t 39,kb false],gm 41 40,gw 41 true 42 (.fa 45 4) [.t 1],gw 41 true 43 (.ld none) [.t 42],gw 41 true 44 .len [.t 43],gw 41 true 45 (.bin .num .leq) [.t 44,kc 64],ga 46 .pick [.t 41,.t 45,kb false],gm 2 46]) .ret))
abbrev F87 :Go.Vm.Fn:=⟨47,B87,[(.t 2)],true⟩
theorem Wu :bC Tryz.prog ob Tryz.f87 true=some F87:=by kernel_rfl
theorem Wv :B87.fits 47=true:=by kernel_rfl
def B88 :Go.Vm.C:=(.seq (.af [ga 2 .mv [kb false]]) (.seq (.af [gm 3 0,ga 4 (.bin .num .geq) [.t 3,kc 0],gm 5 4,gw 5 true 6 .mv [.t 0],gw 5 true 7 (.bin .num .lss) [.t 6,kc 16],ga 8 .pick [.t 5,.t 7,kb false],gm 2 8]) .ret))
abbrev F88 :Go.Vm.Fn:=⟨9,B88,[(.t 2)],true⟩
theorem Ww :bC Tryz.prog ob Tryz.f88 true=some F88:=by kernel_rfl
theorem Wx :B88.fits 9=true:=by kernel_rfl
def HF :Go.Vm.C:=(.loop (.seq (.seq (.af [gm 5 1,ga 6 (.bin .num .gtr) [.t 5,kc 0]]) (.cond (.t 6) .skip (.exit 0))) (.seq (.block 1 (.af [gm 9 0,ga 10 (.bin .num .shl) [.t 9,(.c (.s (.int .u64 1)))],gm 11 0,ga 12 (.bin .num .shr) [.t 11,(.c (.s (.int .u64 31)))],ga 13 (.bin .num .or) [.t 10,.t 12],gm 0 13])) (.af [gm 7 1,ga 8 (.bin .num .sub) [.t 7,kc 1],gm 1 8]))))
def HG :Go.Vm.C:=(.seq (.af [gm 14 0,gm 4 14]) .ret)
def B90 :Go.Vm.C:=(.seq (.af [ga 4 .mv [(.c (.s (.int .u32 0)))]]) (.seq (.block 0 HF) HG))
abbrev F90 :Go.Vm.Fn:=⟨15,B90,[(.t 4)],true⟩
theorem Wy :bC Tryz.prog ob Tryz.f90 true=some F90:=by kernel_rfl
theorem Wz :B90.fits 15=true:=by kernel_rfl
def B91 :Go.Vm.C:=(.seq (.af [ga 1 (.box (some 37)) [.t 0],ga 2 .mv [kb false]]) (.seq (.af [ga 3 (.ld (some 37)) [.t 1],ga 4 (.cG 37 [(z4 28),ku,(aK 22),kx,ki,ki,(aK 22),(.s (.bool false)),(.s (.bool false))] []) [],ga 5 (.call 126) [.t 3,.t 4],gm 2 5]) .ret))
abbrev F91 :Go.Vm.Fn:=⟨6,B91,[(.t 2)],true⟩
theorem WA :bC Tryz.prog ob Tryz.f91 true=some F91:=by kernel_rfl
theorem WB :B91.fits 6=true:=by kernel_rfl
def yA :Go.Vm.C:=(.seq (.af [ga 1 (.box (some 37)) [.t 0],ga 2 .mv [kb false]]) (.seq (.block 0 (.seq (.af [ga 4 (.fa 37 1) [.t 1],ga 5 (.ld none) [.t 4],ga 6 (.bin .num .lss) [.t 5,(.c (.s (.int .u64 1)))],gm 7 6,gw 7 false 8 (.fa 37 1) [.t 1],gw 7 false 9 (.ld none) [.t 8],gw 7 false 10 (.bin .num .gtr) [.t 9,(.c (.s (.int .u64 1099511627776)))],ga 11 .pick [.t 7,kb true,.t 10],gm 3 11]) (.cond (.t 3) (.seq (.af [ga 2 .mv [kb false]]) .ret) (.seq (.af [ga 13 (.fa 37 7) [.t 1],ga 14 (.ld none) [.t 13],gm 12 14]) (.cond (.t 12) (.seq (.af [ga 15 (.fa 37 2) [.t 1],ga 16 (.ld (some 22)) [.t 15],ga 17 (.gJ 22 [(.s (.int .u8 0)),(.s (.int .u8 0)),(.s (.int .u8 0)),(.s (.int .u8 0)),(.s (.int .u8 0)),(.s (.int .u8 0)),(.s (.int .u8 0)),(.s (.int .u8 0)),(.s (.int .u8 0)),(.s (.int .u8 0)),(.s (.int .u8 0)),(.s (.int .u8 0)),(.s (.int .u8 0)),(.s (.int .u8 0)),(.s (.int .u8 0)),(.s (.int .u8 0))] []) [],ga 18 (.wX 22 .u8 false) [.t 16,.t 17],gm 19 18,gw 19 true 20 (.fa 37 6) [.t 1],gw 19 true 21 (.ld (some 22)) [.t 20],gw 19 true 22 (.gJ 22 [(.s (.int .u8 0)),(.s (.int .u8 0)),(.s (.int .u8 0)),(.s (.int .u8 0)),(.s (.int .u8 0)),(.s (.int .u8 0)),(.s (.int .u8 0)),(.s (.int .u8 0)),(.s (.int .u8 0)),(.s (.int .u8 0)),(.s (.int .u8 0)),(.s (.int .u8 0)),(.s (.int .u8 0)),(.s (.int .u8 0)),(.s (.int .u8 0)),(.s (.int .u8 0))] []) [],gw 19 true 23 (.wX 22 .u8 false) [.t 21,.t 22],ga 24 .pick [.t 19,.t 23,kb false],gm 25 24,gw 25 true 26 (.fa 37 3) [.t 1],gw 25 true 27 (.ld none) [.t 26],gw 25 true 28 .len [.t 27],gw 25 true 29 (.bin .num .eql) [.t 28,kc 0],ga 30 .pick [.t 25,.t 29,kb false],gm 31 30,gw 31 true 32 (.fa 37 4) [.t 1],gw 31 true 33 (.ld none) [.t 32],gw 31 true 34 (.bin .num .eql) [.t 33,kc 0],ga 35 .pick [.t 31,.t 34,kb false],gm 36 35,gw 36 true 37 (.fa 37 5) [.t 1],gw 36 true 38 (.ld none) [.t 37],gw 36 true 39 (.bin .num .eql) [.t 38,kc 0],ga 40 .pick [.t 36,.t 39,kb false],gm 2 40]) .ret) .skip))))) (.seq (.af [ga 41 (.fa 37 8) [.t 1],ga 42 (.ld none) [.t 41],ga 43 (.un .not) [.t 42],gm 44 43,gw 44 true 45 (.fa 37 4) [.t 1],gw 44 true 46 (.ld none) [.t 45],gw 44 true 47 (.bin .num .geq) [.t 46,kc 1],ga 48 .pick [.t 44,.t 47,kb false],gm 49 48,gw 49 true 50 (.fa 37 4) [.t 1],gw 49 true 51 (.ld none) [.t 50],gw 49 true 52 (.bin .num .leq) [.t 51,kc 32],ga 53 .pick [.t 49,.t 52,kb false],gm 54 53,gw 54 true 55 (.fa 37 5) [.t 1],gw 54 true 56 (.ld none) [.t 55],gw 54 true 57 (.bin .num .geq) [.t 56,kc 0],ga 58 .pick [.t 54,.t 57,kb false],gm 59 58,gw 59 true 60 (.fa 37 5) [.t 1],gw 59 true 61 (.ld none) [.t 60],gw 59 true 62 (.fa 37 4) [.t 1],gw 59 true 63 (.ld none) [.t 62],gw 59 true 64 (.bin .num .lss) [.t 61,.t 63],ga 65 .pick [.t 59,.t 64,kb false],gm 66 65,gw 66 true 67 (.fa 37 3) [.t 1],gw 66 true 68 (.ld none) [.t 67],gw 66 true 69 .len [.t 68],gw 66 true 70 (.bin .num .leq) [.t 69,kc 64],ga 71 .pick [.t 66,.t 70,kb false],gm 2 71]) .ret)))
abbrev F92 :Go.Vm.Fn:=⟨72,yA,[(.t 2)],true⟩
theorem WC :bC Tryz.prog ob Tryz.f92 true=some F92:=by kernel_rfl
theorem OT :yA.fits 72=true:=by kernel_rfl
def HH :Go.Vm.C:=(.loop (.seq (.af [ga 11 (.bin .num .lss) [.t 10,.t 9]]) (.seq (.cond (.t 11) .skip (.exit 0)) (.seq (.block 1 (.seq (.af [gm 12 10,ga 13 (.dz (some 37)) [.t 8,.t 10],ga 14 (.ld (some 37)) [.t 13],ga 4 (.dj (some 37) (.st 37 [(z4 28),ku,(aK 22),kx,ki,ki,(aK 22),(.s (.bool false)),(.s (.bool false))])) [],gm 3 12,gn (.aP (some 37)) [.t 4,.t 14]]) (.seq (.af [ga 15 (.ld (some 37)) [.t 4],ga 16 (.call 92) [.t 15],ga 17 (.un .not) [.t 16],gm 18 17,gw 18 false 19 .mv [.t 3],gw 18 false 20 (.bin .num .gtr) [.t 19,kc 0],gw 18 false 21 .mv [.t 20],gw 21 true 22 .mv [.t 0],gw 21 true 23 .mv [.t 3],gw 21 true 24 (.bin .num .sub) [.t 23,kc 1],gw 21 true 25 (.dz (some 37)) [.t 22,.t 24],gw 21 true 26 (.fa 37 0) [.t 25],gw 21 true 27 (.mC 28 none false false) [.t 26],gw 21 true 28 (.fa 37 0) [.t 4],gw 21 true 29 (.mC 28 none false false) [.t 28],gw 21 true 30 (.call 110) [.t 27,.t 29],gw 21 true 31 (.bin .num .geq) [.t 30,kc 0],gw 18 false 32 .pick [.t 21,.t 31,kb false],ga 33 .pick [.t 18,kb true,.t 32]]) (.cond (.t 33) (.seq (.af [ga 2 .mv [kb false]]) .ret) .skip)))) (.af [ga 34 (.bin .num .add) [.t 10,kc 1],gm 10 34])))))
def HJ :Go.Vm.C:=(.seq (.af [ga 2 .mv [kb true]]) .ret)
def B93 :Go.Vm.C:=(.seq (.af [ga 2 .mv [kb false]]) (.seq (.seq (.af [gm 5 0,ga 6 .len [.t 5],ga 7 (.bin .num .gtr) [.t 6,kc 4]]) (.cond (.t 7) (.seq (.af [ga 2 .mv [kb false]]) .ret) .skip)) (.seq (.seq (.af [gm 8 0,ga 9 .len [.t 8],ga 10 .mv [kc 0]]) (.block 0 HH)) HJ)))
abbrev F93 :Go.Vm.Fn:=⟨35,B93,[(.t 2)],true⟩
theorem WD :bC Tryz.prog ob Tryz.f93 true=some F93:=by kernel_rfl
theorem WE :B93.fits 35=true:=by kernel_rfl
def B94 :Go.Vm.C:=(.seq (.af [ga 3 (.box (some 28)) [.t 1],ga 4 (.dj (some 37) (.st 37 [(z4 28),ku,(aK 22),kx,ki,ki,(aK 22),(.s (.bool false)),(.s (.bool false))])) [],ga 5 .mv [kb false]]) (.seq (.af [gm 9 0,ga 10 (.ld (some 28)) [.t 3],ga 11 (.call 107) [.t 9,.t 10],gm 8 11,ga 12 (.ext 0) [.t 8],ga 13 (.ext 1) [.t 8],gm 6 12,gm 7 13]) (.seq (.seq (.af [gm 14 7,ga 15 (.un .not) [.t 14]]) (.cond (.t 15) (.seq (.af [ga 16 (.cG 37 [(z4 28),ku,(aK 22),kx,ki,ki,(aK 22),(.s (.bool false)),(.s (.bool false))] []) [],gn (.aP (some 37)) [.t 4,.t 16],ga 5 .mv [kb false]]) .ret) .skip)) (.seq (.af [gm 17 0,ga 18 .bL [.t 17],ga 19 (.fa 138 0) [.t 18],ga 20 (.ld none) [.t 19],gm 21 6,ga 22 (.dz (some 37)) [.t 20,.t 21],ga 23 (.ld (some 37)) [.t 22],ga 24 (.call 108) [.t 23],gn (.aP (some 37)) [.t 4,.t 24],ga 5 .mv [kb true]]) .ret))))
abbrev F94 :Go.Vm.Fn:=⟨25,B94,[(.cell 4 (some 37)),(.t 5)],true⟩
theorem WG :bC Tryz.prog ob Tryz.f94 true=some F94:=by kernel_rfl
theorem WH :B94.fits 25=true:=by kernel_rfl
def B95 :Go.Vm.C:=(.seq (.af [ga 2 .mv [kc 0]]) (.seq (.af [gm 3 0,ga 4 .bL [.t 3],ga 5 (.fa 138 0) [.t 4],ga 6 (.ld none) [.t 5],ga 7 .len [.t 6],gm 2 7]) .ret))
abbrev F95 :Go.Vm.Fn:=⟨8,B95,[(.t 2)],true⟩
theorem WI :bC Tryz.prog ob Tryz.f95 true=some F95:=by kernel_rfl
theorem WJ :B95.fits 8=true:=by kernel_rfl
def B96 :Go.Vm.C:=(.seq (.af [ga 4 .mv [kb false]]) (.seq (.af [gm 5 0,gm 6 1,ga 7 (.call 135) [.t 5,.t 6],ga 8 (.bin .num .geq) [.t 7,kc 0],gm 4 8]) .ret))
abbrev F96 :Go.Vm.Fn:=⟨9,B96,[(.t 4)],true⟩
theorem WK :bC Tryz.prog ob Tryz.f96 true=some F96:=by kernel_rfl
theorem WL :B96.fits 9=true:=by kernel_rfl
def B97 :Go.Vm.C:=(.seq (.af [ga 2 (.box (some 37)) [.t 0],ga 3 .mv [kb false]]) (.seq (.bc [gl 0 0 (ga 4 (.fa 37 0) [.t 2]),gl 0 0 (ga 5 (.ld (some 28)) [.t 4]),gl 0 1 (ga 6 (.call 59) [.t 5]),gl 0 1 (ga 7 (.fa 40 1) [.t 1]),gl 0 1 (ga 8 (.ld none) [.t 7]),gl 1 1 (ga 9 (.bin .num .neq) [.t 6,.t 8]),gl 1 1 (gm 3 9)]) .ret))
abbrev F97 :Go.Vm.Fn:=⟨10,B97,[(.t 3)],true⟩
theorem WM :bC Tryz.prog ob Tryz.f97 true=some F97:=by kernel_rfl
theorem WN :B97.fits 10=true:=by kernel_rfl
def B98 :Go.Vm.C:=(.seq (.af [ga 1 (.box (some 37)) [.t 0],ga 2 .mv [(.c (.aq true none []))]]) (.seq (.af [ga 3 .mv [(.c (.s (.int .u8 0)))]]) (.seq (.block 0 (.seq (.af [ga 5 (.fa 37 8) [.t 1],ga 6 (.ld none) [.t 5],gm 4 6]) (.cond (.t 4) (.af [ga 3 .mv [(.c (.s (.int .u8 3)))]]) (.seq (.af [ga 8 (.fa 37 7) [.t 1],ga 9 (.ld none) [.t 8],gm 7 9]) (.cond (.t 7) (.af [ga 3 .mv [(.c (.s (.int .u8 1)))]]) .skip))))) (.seq (.bc [gl 0 1 (ga 10 (.fa 37 0) [.t 1]),gl 0 1 (ga 11 (.mC 28 none false false) [.t 10]),gl 0 0 (ga 12 (.fa 37 1) [.t 1]),gl 0 0 (ga 13 (.ld none) [.t 12]),gl 0 1 (ga 14 (.call 99) [.t 13]),gl 0 1 (gm 15 3),gl 0 1 (ga 16 (.fa 37 4) [.t 1]),gl 0 1 (ga 17 (.ld none) [.t 16]),gl 0 1 (ga 18 (.gI .u8) [.t 17]),gl 0 1 (ga 19 (.fa 37 5) [.t 1]),gl 0 1 (ga 20 (.ld none) [.t 19]),gl 0 1 (ga 21 (.gI .u8) [.t 20]),gl 0 1 (ga 22 (.uY none [(.s (.int .u8 0)),(.s (.int .u8 0)),(.s (.int .u8 0))] [0,1,2]) [.t 15,.t 18,.t 21]),gl 0 1 (ga 23 (.fa 37 2) [.t 1]),gl 0 1 (ga 24 (.mC 22 none false false) [.t 23]),gl 0 1 (ga 25 (.fa 37 6) [.t 1]),gl 0 1 (ga 26 (.mC 22 none false false) [.t 25]),gl 0 1 (ga 27 (.fa 37 3) [.t 1]),gl 0 1 (ga 28 (.ld none) [.t 27]),gl 0 1 (ga 29 .len [.t 28]),gl 0 1 (ga 30 (.gI .u8) [.t 29]),gl 0 1 (ga 31 (.uY none [(.s (.int .u8 0))] [0]) [.t 30]),gl 0 1 (ga 32 (.fa 37 3) [.t 1]),gl 0 1 (ga 33 (.ld none) [.t 32]),gl 1 1 (ga 34 (.uY none [kx,kx,kx,kx,kx,kx,kx] [0,1,2,3,4,5,6]) [.t 11,.t 14,.t 22,.t 24,.t 26,.t 31,.t 33]),gl 1 1 (ga 35 (.eB 133) [.t 34]),gl 1 1 (gm 2 35)]) .ret))))
abbrev F98 :Go.Vm.Fn:=⟨36,B98,[(.t 2)],true⟩
theorem WO :bC Tryz.prog ob Tryz.f98 true=some F98:=by kernel_rfl
theorem WQ :B98.fits 36=true:=by kernel_rfl
def HK :Go.Vm.C:=(.loop (.seq (.af [ga 9 (.bin .num .lss) [.t 8,.t 7]]) (.seq (.cond (.t 9) .skip (.exit 0)) (.seq (.block 1 (.seq (.af [gm 10 8,gm 4 10]) (.af [gm 11 3,gm 12 4,gm 13 0,gm 14 4,ga 15 (.bin .num .sub) [kc 7,.t 14],ga 16 (.bin .num .mul) [kc 8,.t 15],ga 17 (.bin .num .shr) [.t 13,.t 16],ga 18 (.gI .u8) [.t 17],ga 19 (.dz none) [.t 11,.t 12],gn (.aP none) [.t 19,.t 18]]))) (.af [ga 20 (.bin .num .add) [.t 8,kc 1],gm 8 20])))))
def HL :Go.Vm.C:=(.seq (.af [gm 21 3,gm 2 21]) .ret)
def B99 :Go.Vm.C:=(.seq (.af [ga 2 .mv [(.c (.aq true none []))]]) (.seq (.af [ga 5 (.mks none (.s (.int .u8 0))) [kc 8,kc 8],gm 3 5]) (.seq (.seq (.af [gm 6 3,ga 7 .len [.t 6],ga 8 .mv [kc 0]]) (.block 0 HK)) HL)))
abbrev F99 :Go.Vm.Fn:=⟨22,B99,[(.t 2)],false⟩
theorem WR :bC Tryz.prog ob Tryz.f99 false=some F99:=by kernel_rfl
theorem WS :B99.fits 22=true:=by kernel_rfl
def HM :Go.Vm.C:=(.loop (.seq (.af [ga 17 (.bin .num .lss) [.t 16,.t 15]]) (.seq (.cond (.t 17) .skip (.exit 0)) (.seq (.block 1 (.seq (.af [gm 18 16,gm 8 18]) (.af [gm 19 7,gm 20 8,ga 21 (.dz none) [.t 19,.t 20],ga 22 (.ld none) [.t 21],gm 23 2,gm 24 8,ga 25 (.dz none) [.t 23,.t 24],ga 26 (.ld none) [.t 25],ga 27 (.bin .num .xor) [.t 22,.t 26],ga 28 (.dz none) [.t 19,.t 20],gn (.aP none) [.t 28,.t 27]]))) (.af [ga 29 (.bin .num .add) [.t 16,kc 1],gm 16 29])))))
def HN :Go.Vm.C:=(.seq (.af [gm 30 7,gm 6 30]) .ret)
def Pt :Go.Vm.C:=(.seq (.af [ga 3 (.box (some 22)) [.t 0],ga 6 .mv [(.c (.aq true none []))]]) (.seq (.af [ga 9 (.ld (some 22)) [.t 3],gm 10 1,gm 11 2,ga 12 .len [.t 11],ga 13 (.call 136) [.t 9,.t 10,.t 12],gm 7 13]) (.seq (.seq (.af [gm 14 7,ga 15 .len [.t 14],ga 16 .mv [kc 0]]) (.block 0 HM)) HN)))
abbrev WT :Go.Vm.Fn:=⟨31,Pt,[(.t 6)],false⟩
theorem Pu :bC Tryz.prog ob Tryz.f100 false=some WT:=by kernel_rfl
theorem Pv :Pt.fits 31=true:=by kernel_rfl
def Pw :Go.Vm.C:=(.seq (.af [ga 4 (.box (some 22)) [.t 0],ga 8 .mv [(.c (.aq true none []))]]) (.seq (.af [ga 10 (.ld (some 22)) [.t 4],ga 11 (.ld (some 22)) [.t 4],ga 12 (.call 54) [.t 10,.t 11],gm 13 1,ga 14 (.call 99) [.t 13],gm 15 2,ga 16 .len [.t 15],ga 17 (.gI .u64) [.t 16],ga 18 (.call 99) [.t 17],gm 19 2,gm 20 3,ga 21 (.jg none [kx,kx,kx,kx] [0,1,2,3]) [.t 14,.t 18,.t 19,.t 20],ga 22 (.call 133) [.t 21],ga 23 (.call 44) [.t 12,.t 22],ga 9 (.dj (some 22) (aK 22)) [],gn (.aP (some 22)) [.t 9,.t 23]]) (.seq (.af [ga 24 (.mC 22 none false true) [.t 9,kc 8],gm 8 24]) .ret)))
abbrev WU :Go.Vm.Fn:=⟨25,Pw,[(.t 8)],false⟩
theorem Px :bC Tryz.prog ob Tryz.f101 false=some WU:=by kernel_rfl
theorem Py :Pw.fits 25=true:=by kernel_rfl
def AM :Go.Vm.C:=(.loop (.seq (.seq (.af [gm 5 4,ga 6 (.bin .num .geq) [.t 5,kc 0]]) (.cond (.t 6) .skip (.exit 0))) (.seq (.block 1 (.af [gm 9 3,ga 10 (.bin .num .shl) [.t 9,(.c (.s (.int .u64 8)))],gm 11 0,gm 12 4,ga 13 (.dz none) [.t 11,.t 12],ga 14 (.ld none) [.t 13],ga 15 (.gI .u32) [.t 14],ga 16 (.bin .num .or) [.t 10,.t 15],gm 3 16])) (.af [gm 7 4,ga 8 (.bin .num .sub) [.t 7,kc 1],gm 4 8]))))
def AN :Go.Vm.C:=(.seq (.af [gm 17 3,gm 2 17]) .ret)
def LN :Go.Vm.C:=(.seq (.af [ga 2 .mv [(.c (.s (.int .u32 0)))]]) (.seq (.af [ga 3 .mv [(.c (.s (.int .u32 0)))]]) (.seq (.seq (.af [ga 4 .mv [kc 3]]) (.block 0 AM)) AN)))
abbrev Pz :Go.Vm.Fn:=⟨18,LN,[(.t 2)],true⟩
theorem HO :bC Tryz.prog ob Tryz.f102 true=some Pz:=by kernel_rfl
theorem PA :LN.fits 18=true:=by kernel_rfl
def LO :Go.Vm.C:=(.seq (.af [gm 2 0,ga 3 .bL [.t 2],ga 4 (.kG 147) [.t 3,kc 0],ga 5 (.ld none) [.t 4],gm 6 0,ga 7 .bL [.t 6],ga 8 (.kG 147) [.t 7,kc 1],ga 9 (.ld none) [.t 8],ga 10 (.bin .num .add) [.t 5,.t 9],ga 11 .bL [.t 2],ga 12 (.kG 147) [.t 11,kc 0],gn (.aP none) [.t 12,.t 10]]) (.seq (.af [gm 13 0,gm 14 0,ga 15 .bL [.t 14],ga 16 (.kG 147) [.t 15,kc 3],ga 17 (.ld none) [.t 16],gm 18 0,ga 19 .bL [.t 18],ga 20 (.kG 147) [.t 19,kc 0],ga 21 (.ld none) [.t 20],ga 22 (.bin .num .xor) [.t 17,.t 21],ga 23 (.call 137) [.t 22,kc 16],ga 24 .bL [.t 13],ga 25 (.kG 147) [.t 24,kc 3],gn (.aP none) [.t 25,.t 23]]) (.seq (.af [gm 26 0,ga 27 .bL [.t 26],ga 28 (.kG 147) [.t 27,kc 2],ga 29 (.ld none) [.t 28],gm 30 0,ga 31 .bL [.t 30],ga 32 (.kG 147) [.t 31,kc 3],ga 33 (.ld none) [.t 32],ga 34 (.bin .num .add) [.t 29,.t 33],ga 35 .bL [.t 26],ga 36 (.kG 147) [.t 35,kc 2],gn (.aP none) [.t 36,.t 34]]) (.seq (.af [gm 37 0,gm 38 0,ga 39 .bL [.t 38],ga 40 (.kG 147) [.t 39,kc 1],ga 41 (.ld none) [.t 40],gm 42 0,ga 43 .bL [.t 42],ga 44 (.kG 147) [.t 43,kc 2],ga 45 (.ld none) [.t 44],ga 46 (.bin .num .xor) [.t 41,.t 45],ga 47 (.call 137) [.t 46,kc 12],ga 48 .bL [.t 37],ga 49 (.kG 147) [.t 48,kc 1],gn (.aP none) [.t 49,.t 47]]) (.seq (.af [gm 50 0,ga 51 .bL [.t 50],ga 52 (.kG 147) [.t 51,kc 0],ga 53 (.ld none) [.t 52],gm 54 0,ga 55 .bL [.t 54],ga 56 (.kG 147) [.t 55,kc 1],ga 57 (.ld none) [.t 56],ga 58 (.bin .num .add) [.t 53,.t 57],ga 59 .bL [.t 50],ga 60 (.kG 147) [.t 59,kc 0],gn (.aP none) [.t 60,.t 58]]) (.seq (.af [gm 61 0,gm 62 0,ga 63 .bL [.t 62],ga 64 (.kG 147) [.t 63,kc 3],ga 65 (.ld none) [.t 64],gm 66 0,ga 67 .bL [.t 66],ga 68 (.kG 147) [.t 67,kc 0],ga 69 (.ld none) [.t 68],ga 70 (.bin .num .xor) [.t 65,.t 69],ga 71 (.call 137) [.t 70,kc 8],ga 72 .bL [.t 61],ga 73 (.kG 147) [.t 72,kc 3],gn (.aP none) [.t 73,.t 71]]) (.seq (.af [gm 74 0,ga 75 .bL [.t 74],ga 76 (.kG 147) [.t 75,kc 2],ga 77 (.ld none) [.t 76],gm 78 0,ga 79 .bL [.t 78],ga 80 (.kG 147) [.t 79,kc 3],ga 81 (.ld none) [.t 80],ga 82 (.bin .num .add) [.t 77,.t 81],ga 83 .bL [.t 74],ga 84 (.kG 147) [.t 83,kc 2],gn (.aP none) [.t 84,.t 82]]) (.af [gm 85 0,gm 86 0,ga 87 .bL [.t 86],ga 88 (.kG 147) [.t 87,kc 1],ga 89 (.ld none) [.t 88],gm 90 0,ga 91 .bL [.t 90],ga 92 (.kG 147) [.t 91,kc 2],ga 93 (.ld none) [.t 92],ga 94 (.bin .num .xor) [.t 89,.t 93],ga 95 (.call 137) [.t 94,kc 7],ga 96 .bL [.t 85],ga 97 (.kG 147) [.t 96,kc 1],gn (.aP none) [.t 97,.t 95]]))))))))
abbrev PB :Go.Vm.Fn:=⟨98,LO,[],true⟩
theorem HP :bC Tryz.prog ob Tryz.f103 true=some PB:=by kernel_rfl
theorem PC :LO.fits 98=true:=by kernel_rfl
def LP :Go.Vm.C:=(.seq (.af [ga 2 .mv [kb false]]) (.seq (.af [gm 3 0,ga 4 (.bin .num .geq) [.t 3,kc 0],gm 5 4,gw 5 true 6 .mv [.t 0],gw 5 true 7 (.bin .num .lss) [.t 6,kc 10],ga 8 .pick [.t 5,.t 7,kb false],gm 2 8]) .ret))
abbrev WV :Go.Vm.Fn:=⟨9,LP,[(.t 2)],true⟩
theorem PD :bC Tryz.prog ob Tryz.f104 true=some WV:=by kernel_rfl
theorem PE :LP.fits 9=true:=by kernel_rfl
def PF :Go.Vm.C:=(.seq (.af [ga 2 (.dj (some 99) (.st 99 [(.s (.bool false)),kx])) []]) (.seq (.af [gm 3 0,ga 4 (.call 89) [.t 3],ga 5 (.cG 99 [(.s (.bool false)),kx] [0,1]) [kb true,.t 4],gn (.aP (some 99)) [.t 2,.t 5]]) .ret))
abbrev WW :Go.Vm.Fn:=⟨6,PF,[(.cell 2 (some 99))],false⟩
theorem PG :bC Tryz.prog ob Tryz.f105 false=some WW:=by kernel_rfl
theorem PH :PF.fits 6=true:=by kernel_rfl
def HQ :Go.Vm.C:=(.seq (.af [gm 4 0,gm 5 0,ga 6 .bL [.t 5],ga 7 (.fa 102 1) [.t 6],ga 8 (.ld (some 101)) [.t 7],ga 9 .bL [.t 4],ga 10 (.fa 102 0) [.t 9],gn (.aP (some 101)) [.t 10,.t 8]]) (.seq (.seq (.af [gm 11 0,ga 12 .bL [.t 11],ga 13 (.fa 102 2) [.t 12],ga 14 (.ld none) [.t 13],ga 15 (.bin .num .gtr) [.t 14,kc 0],gm 16 15,gw 16 true 17 .mv [.t 1],gw 16 true 18 (.bin .num .gtr) [.t 17,kc 0],ga 19 .pick [.t 16,.t 18,kb false]]) (.cond (.t 19) (.bc [gl 0 1 (gm 20 0),gl 0 1 (gm 21 0),gl 0 1 (ga 22 .bL [.t 21]),gl 0 1 (ga 23 (.fa 102 3) [.t 22]),gl 0 1 (ga 24 (.ld none) [.t 23]),gl 0 0 (gm 25 0),gl 0 0 (ga 26 .bL [.t 25]),gl 0 0 (ga 27 (.fa 102 4) [.t 26]),gl 0 0 (ga 28 (.ld none) [.t 27]),gl 0 0 (gm 29 1),gl 0 0 (gm 30 0),gl 0 0 (ga 31 .bL [.t 30]),gl 0 0 (ga 32 (.fa 102 4) [.t 31]),gl 0 0 (ga 33 (.ld none) [.t 32]),gl 0 0 (ga 34 .len [.t 33]),gl 0 0 (ga 35 .min [.t 29,.t 34]),gl 0 0 (ga 36 (.j2 none false true false) [.t 28,.t 35]),gl 0 1 (ga 37 (.call 105) [.t 36]),gl 0 1 (ga 38 .bL [.t 20]),gl 0 1 (ga 39 (.fa 102 0) [.t 38]),gl 1 1 (ga 40 (.kG 101) [.t 39,.t 24]),gl 1 2 (gn (.aP (some 99)) [.t 40,.t 37])]) .skip)) (.af [gm 41 0,ga 42 (.call 57) [.t 41]])))
abbrev WX :Go.Vm.Fn:=⟨43,HQ,[],false⟩
theorem PI :bC Tryz.prog ob Tryz.f106 false=some WX:=by kernel_rfl
theorem PJ :HQ.fits 43=true:=by kernel_rfl
def LQ :Go.Vm.C:=(.seq (.af [ga 3 (.box (some 28)) [.t 1],ga 4 .mv [kc 0],ga 5 .mv [kb false]]) (.seq (.af [gm 6 0,ga 7 .bL [.t 6],ga 8 (.fa 138 0) [.t 7],ga 9 (.ld none) [.t 8],ga 10 (.ld (some 28)) [.t 3],ga 11 (.call 138) [.t 9,.t 10,(.c (.fn 139 []))],ga 12 (.ext 0) [.t 11],ga 13 (.ext 1) [.t 11],gm 4 12,gm 5 13]) .ret))
abbrev WY :Go.Vm.Fn:=⟨14,LQ,[(.t 4),(.t 5)],true⟩
theorem PK :bC Tryz.prog ob Tryz.f107 true=some WY:=by kernel_rfl
theorem PL :LQ.fits 14=true:=by kernel_rfl
def PM :Go.Vm.C:=(.seq (.af [ga 1 (.box (some 37)) [.t 0],ga 2 (.dj (some 37) (.st 37 [(z4 28),ku,(aK 22),kx,ki,ki,(aK 22),(.s (.bool false)),(.s (.bool false))])) []]) (.seq (.af [ga 3 (.fa 37 3) [.t 1],ga 4 (.ld none) [.t 3],ga 5 (.call 89) [.t 4],ga 6 (.fa 37 3) [.t 1],gn (.aP none) [.t 6,.t 5]]) (.seq (.af [ga 7 (.ld (some 37)) [.t 1],gn (.aP (some 37)) [.t 2,.t 7]]) .ret)))
abbrev WZ :Go.Vm.Fn:=⟨8,PM,[(.cell 2 (some 37))],true⟩
theorem PN :bC Tryz.prog ob Tryz.f108 true=some WZ:=by kernel_rfl
theorem PO :PM.fits 8=true:=by kernel_rfl
def LS :Go.Vm.C:=(.seq (.af [ga 1 (.box (some 37)) [.t 0],ga 2 .mv [(.c (.aq true none []))],ga 3 .mv [kc 0]]) (.seq (.seq (.af [ga 4 (.ld (some 37)) [.t 1],ga 5 (.call 92) [.t 4],ga 6 (.un .not) [.t 5]]) (.cond (.t 6) (.seq (.af [ga 2 .mv [(.c (.aq true none []))],ga 3 .mv [kc 1]]) .ret) .skip)) (.seq (.af [ga 7 (.ld (some 37)) [.t 1],ga 8 (.call 98) [.t 7],gm 2 8,ga 3 .mv [kc 0]]) .ret)))
abbrev W0 :Go.Vm.Fn:=⟨9,LS,[(.t 2),(.t 3)],true⟩
theorem PQ :bC Tryz.prog ob Tryz.f111 true=some W0:=by kernel_rfl
theorem PR :LS.fits 9=true:=by kernel_rfl
def AO :Go.Vm.C:=(.loop (.seq (.seq (.af [gm 13 7,ga 14 .len [.t 13],gm 15 2,ga 16 (.bin .num .lss) [.t 14,.t 15]]) (.cond (.t 16) .skip (.exit 0))) (.seq (.block 1 (.seq (.bc [gl 0 3 (ga 19 (.ld (some 22)) [.t 3]),gl 0 0 (gm 20 1),gl 0 1 (ga 21 (.call 30) [.t 20]),gl 0 1 (gm 22 8),gl 1 2 (ga 23 (.call 30) [.t 22]),gl 2 3 (ga 24 (.app none 1) [.t 21,.t 23]),gl 3 3 (ga 25 (.eB 70) [.t 19,.t 24]),gl 0 3 (gn .nop []),gl 3 3 (ga 9 (.fzp (some 22)) [.t 25])]) (.af [gm 26 7,ga 27 (.mC 22 none false false) [.t 9],ga 28 (.app none 1) [.t 26,.t 27],gm 7 28]))) (.af [gm 17 8,ga 18 (.bin .num .add) [.t 17,(.c (.s (.int .u64 1)))],gm 8 18]))))
def AP :Go.Vm.C:=(.seq (.af [gm 29 7,gm 30 2,ga 31 (.j2 none false true false) [.t 29,.t 30],gm 6 31]) .ret)
def LU :Go.Vm.C:=(.seq (.af [ga 3 (.box (some 22)) [.t 0],ga 6 .mv [(.c (.aq true none []))]]) (.seq (.af [gm 10 2,ga 11 .min [.t 10,kc 8192],ga 12 .max [.t 11,kc 0],gm 2 12]) (.seq (.af [ga 7 .mv [(.c (.aq true none []))]]) (.seq (.seq (.af [ga 8 .mv [(.c ku)]]) (.block 0 AO)) AP))))
abbrev W2 :Go.Vm.Fn:=⟨32,LU,[(.t 6)],false⟩
theorem PS :bC Tryz.prog ob Tryz.f112 false=some W2:=by kernel_rfl
theorem PT :LU.fits 32=true:=by kernel_rfl
def PU :Go.Vm.C:=(.seq (.af [ga 2 (.box (some 22)) [.t 0],ga 3 (.box (some 22)) [.t 1],ga 4 (.dj (some 22) (aK 22)) []]) (.seq (.af [ga 5 (.ld (some 22)) [.t 2],ga 6 (.mC 22 none false false) [.t 3],ga 7 (.call 70) [.t 5,.t 6],gn (.aP (some 22)) [.t 4,.t 7]]) .ret))
abbrev W3 :Go.Vm.Fn:=⟨8,PU,[(.cell 4 (some 22))],true⟩
theorem PV :bC Tryz.prog ob Tryz.f113 true=some W3:=by kernel_rfl
theorem PW :PU.fits 8=true:=by kernel_rfl
def HR :Go.Vm.C:=(.seq (.af [ga 12 .mv [kc 0]]) (.seq (.af [ga 14 (.call 42) [],gm 13 14]) (.seq (.seq (.af [gm 15 0,gm 16 1,gm 17 2,gm 18 3,gm 19 4,gm 20 5,ga 21 (.call 143) [.t 15,.t 16,.t 17,.t 18,.t 19,.t 20],ga 22 (.un .not) [.t 21],gm 23 22,gw 23 false 24 .mv [.t 13],gw 23 false 25 .mv [.t 5],gw 23 false 26 (.call 61) [.t 24,.t 25],gw 23 false 27 (.bin .num .neq) [.t 26,kc 0],ga 28 .pick [.t 23,kb true,.t 27]]) (.cond (.t 28) (.seq (.af [ga 12 .mv [kc 1]]) .ret) .skip)) (.seq (.af [gm 29 0,ga 30 .bL [.t 29],ga 31 (.fa 92 2) [.t 30],ga 32 (.ld none) [.t 31],gm 33 1,gm 34 2,gm 35 3,gm 36 4,gm 37 13,ga 38 (.cG 96 [ki,ku,ki,(.s (.pointer none))] [0,1,2,3]) [.t 34,.t 35,.t 36,.t 37],ga 39 (.dz (some 96)) [.t 32,.t 33],gn (.aP (some 96)) [.t 39,.t 38]]) (.seq (.af [ga 12 .mv [kc 0]]) .ret)))))
abbrev W4 :Go.Vm.Fn:=⟨40,HR,[(.t 12)],false⟩
theorem PX :bC Tryz.prog ob Tryz.f114 false=some W4:=by kernel_rfl
theorem PY :HR.fits 40=true:=by kernel_rfl
def AQ :Go.Vm.C:=(.loop (.seq (.af [ga 12 (.bin .num .lss) [.t 11,.t 10]]) (.seq (.cond (.t 12) .skip (.exit 0)) (.seq (.block 1 (.seq (.af [ga 13 (.dz (some 37)) [.t 9,.t 11],ga 14 (.ld (some 37)) [.t 13],ga 5 (.dj (some 37) (.st 37 [(z4 28),ku,(aK 22),kx,ki,ki,(aK 22),(.s (.bool false)),(.s (.bool false))])) [],gn (.aP (some 37)) [.t 5,.t 14]]) (.af [gm 15 3,ga 16 (.ld (some 37)) [.t 5],ga 17 (.call 108) [.t 16],ga 18 (.jg (some 37) [(.st 37 [(z4 28),ku,(aK 22),kx,ki,ki,(aK 22),(.s (.bool false)),(.s (.bool false))])] [0]) [.t 17],ga 19 (.app (some 37) 96) [.t 15,.t 18],gm 3 19]))) (.af [ga 20 (.bin .num .add) [.t 11,kc 1],gm 11 20])))))
def AR :Go.Vm.C:=(.seq (.af [gm 21 3,gm 2 21]) .ret)
def LV :Go.Vm.C:=(.seq (.af [ga 2 .mv [(.c (.aq true (some 37) []))]]) (.seq (.af [ga 3 .mv [(.c (.aq true (some 37) []))]]) (.seq (.seq (.af [gm 6 0,ga 7 .bL [.t 6],ga 8 (.fa 138 0) [.t 7],ga 9 (.ld none) [.t 8],ga 10 .len [.t 9],ga 11 .mv [kc 0]]) (.block 0 AQ)) AR)))
abbrev W5 :Go.Vm.Fn:=⟨22,LV,[(.t 2)],true⟩
theorem PZ :bC Tryz.prog ob Tryz.f115 true=some W5:=by kernel_rfl
theorem P0 :LV.fits 22=true:=by kernel_rfl
def HS :Go.Vm.C:=(.loop (.seq (.af [ga 10 (.bin .num .lss) [.t 9,.t 8]]) (.seq (.cond (.t 10) .skip (.exit 0)) (.seq (.block 1 (.seq (.af [ga 11 (.dz none) [.t 7,.t 9],ga 12 (.ld none) [.t 11],gm 5 12]) (.af [gm 13 3,ga 14 (.bin .num .shl) [.t 13,(.c (.s (.int .u64 8)))],gm 15 5,ga 16 (.gI .u64) [.t 15],ga 17 (.bin .num .or) [.t 14,.t 16],gm 3 17]))) (.af [ga 18 (.bin .num .add) [.t 9,kc 1],gm 9 18])))))
def HT :Go.Vm.C:=(.seq (.af [gm 19 3,gm 2 19]) .ret)
def P1 :Go.Vm.C:=(.seq (.af [ga 2 .mv [(.c ku)]]) (.seq (.af [ga 3 .mv [(.c ku)]]) (.seq (.seq (.af [gm 6 0,ga 7 (.j2 none false true false) [.t 6,kc 8],ga 8 .len [.t 7],ga 9 .mv [kc 0]]) (.block 0 HS)) HT)))
abbrev W6 :Go.Vm.Fn:=⟨20,P1,[(.t 2)],true⟩
theorem P2 :bC Tryz.prog ob Tryz.f116 true=some W6:=by kernel_rfl
theorem P3 :P1.fits 20=true:=by kernel_rfl
def AS :Go.Vm.C:=(.seq (.af [ga 4 (.box (some 22)) [.t 0],ga 8 .mv [(.c (.aq true none []))],ga 9 .mv [kc 0]]) (.seq (.seq (.af [gm 12 3,ga 13 .len [.t 12],ga 14 (.bin .num .lss) [.t 13,kc 8],gm 15 14,gw 15 false 16 .mv [.t 3],gw 15 false 17 .len [.t 16],gw 15 false 18 (.bin .num .gtr) [.t 17,kc 8192],ga 19 .pick [.t 15,kb true,.t 18],gm 20 19,gw 20 false 21 .mv [.t 2],gw 20 false 22 .len [.t 21],gw 20 false 23 (.bin .num .gtr) [.t 22,kc 8192],ga 24 .pick [.t 20,kb true,.t 23]]) (.cond (.t 24) (.seq (.af [ga 8 .mv [(.c (.aq true none []))],ga 9 .mv [kc 30]]) .ret) .skip)) (.seq (.af [gm 25 3,ga 26 .len [.t 25],ga 27 (.bin .num .sub) [.t 26,kc 8],gm 10 27]) (.seq (.af [ga 28 (.ld (some 22)) [.t 4],gm 29 1,gm 30 3,gm 31 10,ga 32 (.j2 none false true false) [.t 30,.t 31],ga 33 (.call 100) [.t 28,.t 29,.t 32],gm 11 33]) (.seq (.seq (.bc [gl 0 0 (ga 34 (.ld (some 22)) [.t 4]),gl 0 0 (gm 35 1),gl 0 0 (gm 36 2),gl 0 0 (gm 37 11),gl 0 1 (ga 38 (.call 101) [.t 34,.t 35,.t 36,.t 37]),gl 0 1 (gm 39 3),gl 0 1 (gm 40 10),gl 0 1 (ga 41 (.j2 none true false false) [.t 39,.t 40]),gl 1 2 (ga 42 (.call 144) [.t 38,.t 41]),gl 2 2 (ga 43 (.un .not) [.t 42])]) (.cond (.t 43) (.seq (.af [ga 8 .mv [(.c (.aq true none []))],ga 9 .mv [kc 30]]) .ret) .skip)) (.seq (.af [gm 44 11,gm 8 44,ga 9 .mv [kc 0]]) .ret))))))
abbrev W7 :Go.Vm.Fn:=⟨45,AS,[(.t 8),(.t 9)],true⟩
theorem P4 :bC Tryz.prog ob Tryz.f117 true=some W7:=by kernel_rfl
theorem P5 :AS.fits 45=true:=by kernel_rfl
def P6 :Go.Vm.C:=(.seq (.af [ga 2 (.box (some 22)) [.t 0],ga 4 (.dj (some 22) (aK 22)) []]) (.seq (.bc [gl 0 1 (ga 5 (.ld (some 22)) [.t 2]),gl 0 0 (gm 6 1),gl 0 1 (ga 7 (.call 99) [.t 6]),gl 1 2 (ga 8 (.call 44) [.t 5,.t 7]),gl 2 3 (gn (.aP (some 22)) [.t 4,.t 8])]) .ret))
abbrev W8 :Go.Vm.Fn:=⟨9,P6,[(.cell 4 (some 22))],true⟩
theorem P7 :bC Tryz.prog ob Tryz.f118 true=some W8:=by kernel_rfl
theorem P8 :P6.fits 9=true:=by kernel_rfl
def P9 :Go.Vm.C:=(.seq (.af [ga 2 .mv [kc 0]]) (.seq (.af [gm 3 0,ga 4 (.call 145) [.t 3,kc 1],ga 5 (.dz none) [.t 4,kc 0],ga 6 (.ld none) [.t 5],ga 7 (.gI .i64) [.t 6],gm 2 7]) .ret))
abbrev W9 :Go.Vm.Fn:=⟨8,P9,[(.t 2)],true⟩
theorem Qa :bC Tryz.prog ob Tryz.f119 true=some W9:=by kernel_rfl
theorem Qb :P9.fits 8=true:=by kernel_rfl
def Qc :Go.Vm.C:=(.seq (.af [ga 2 (.dj (some 28) (z4 28)) []]) (.seq (.af [gm 3 0,ga 4 (.call 145) [.t 3,kc 4],ga 5 (.s2a 28 none 4) [.t 4],ga 6 (.ld (some 28)) [.t 5],gn (.aP (some 28)) [.t 2,.t 6]]) .ret))
abbrev Xa :Go.Vm.Fn:=⟨7,Qc,[(.cell 2 (some 28))],true⟩
theorem Qd :bC Tryz.prog ob Tryz.f120 true=some Xa:=by kernel_rfl
theorem Qe :Qc.fits 7=true:=by kernel_rfl
def Qf :Go.Vm.C:=(.seq (.af [ga 2 (.dj (some 22) (aK 22)) []]) (.seq (.af [gm 3 0,ga 4 (.call 145) [.t 3,kc 16],ga 5 (.s2a 22 none 16) [.t 4],ga 6 (.ld (some 22)) [.t 5],gn (.aP (some 22)) [.t 2,.t 6]]) .ret))
abbrev Xb :Go.Vm.Fn:=⟨7,Qf,[(.cell 2 (some 22))],true⟩
theorem Qg :bC Tryz.prog ob Tryz.f121 true=some Xb:=by kernel_rfl
theorem Qh :Qf.fits 7=true:=by kernel_rfl
def HU :Go.Vm.C:=(.loop (.seq (.af [ga 10 (.bin .num .lss) [.t 9,.t 8]]) (.seq (.cond (.t 10) .skip (.exit 0)) (.seq (.block 1 (.seq (.af [ga 11 (.dz none) [.t 7,.t 9],ga 12 (.ld none) [.t 11],gm 5 12]) (.af [gm 13 3,ga 14 (.bin .num .shl) [.t 13,(.c (.s (.int .u64 8)))],gm 15 5,ga 16 (.gI .u64) [.t 15],ga 17 (.bin .num .or) [.t 14,.t 16],gm 3 17]))) (.af [ga 18 (.bin .num .add) [.t 9,kc 1],gm 9 18])))))
def HV :Go.Vm.C:=(.seq (.af [gm 19 3,gm 2 19]) .ret)
def Qi :Go.Vm.C:=(.seq (.af [ga 2 .mv [(.c ku)]]) (.seq (.af [ga 3 .mv [(.c ku)]]) (.seq (.seq (.af [gm 6 0,ga 7 (.call 145) [.t 6,kc 8],ga 8 .len [.t 7],ga 9 .mv [kc 0]]) (.block 0 HU)) HV)))
abbrev Xc :Go.Vm.Fn:=⟨20,Qi,[(.t 2)],true⟩
theorem Qj :bC Tryz.prog ob Tryz.f122 true=some Xc:=by kernel_rfl
theorem Qk :Qi.fits 20=true:=by kernel_rfl
def Ql :Go.Vm.C:=(.seq (.af [ga 2 .mv [(.c (.aq true none []))]]) (.seq (.af [gm 3 0,gm 4 0,ga 5 (.call 119) [.t 4],ga 6 (.call 145) [.t 3,.t 5],ga 7 (.call 89) [.t 6],gm 2 7]) .ret))
abbrev Xd :Go.Vm.Fn:=⟨8,Ql,[(.t 2)],true⟩
theorem Qm :bC Tryz.prog ob Tryz.f123 true=some Xd:=by kernel_rfl
theorem Qn :Ql.fits 8=true:=by kernel_rfl
def HW :Go.Vm.C:=(.seq (.af [ga 2 .mv [kb false]]) (.seq (.af [gm 3 0,ga 4 .bL [.t 3],ga 5 (.fa 160 1) [.t 4],ga 6 (.ld none) [.t 5],gm 7 6,gw 7 false 8 .mv [.t 0],gw 7 false 9 .bL [.t 8],gw 7 false 10 (.fa 160 0) [.t 9],gw 7 false 11 (.ld none) [.t 10],gw 7 false 12 .len [.t 11],gw 7 false 13 (.bin .num .gtr) [.t 12,kc 0],ga 14 .pick [.t 7,kb true,.t 13],gm 2 14]) .ret))
abbrev Xe :Go.Vm.Fn:=⟨15,HW,[(.t 2)],true⟩
theorem Qo :bC Tryz.prog ob Tryz.f124 true=some Xe:=by kernel_rfl
theorem Qp :HW.fits 15=true:=by kernel_rfl
def HX :Go.Vm.C:=(.seq (.af [ga 4 .mv [kb false]]) (.seq (.af [gm 5 0,ga 6 (.bin .num .geq) [.t 5,kc 0],gm 7 6,gw 7 true 8 .mv [.t 0],gw 7 true 9 (.bin .num .lss) [.t 8,kc 4],ga 10 .pick [.t 7,.t 9,kb false],gm 11 10,gw 11 true 12 .mv [.t 1],gw 11 true 13 (.bin .num .leq) [.t 12,(.c (.s (.int .u64 1099511627776)))],ga 14 .pick [.t 11,.t 13,kb false],gm 4 14]) .ret))
abbrev Xf :Go.Vm.Fn:=⟨15,HX,[(.t 4)],true⟩
theorem Qq :bC Tryz.prog ob Tryz.f125 true=some Xf:=by kernel_rfl
theorem Qr :HX.fits 15=true:=by kernel_rfl
def LW :Go.Vm.C:=(.seq (.af [ga 2 (.box (some 37)) [.t 0],ga 3 (.box (some 37)) [.t 1],ga 4 .mv [kb false]]) (.seq (.af [ga 5 (.fa 37 0) [.t 2],ga 6 (.ld (some 28)) [.t 5],ga 7 (.fa 37 0) [.t 3],ga 8 (.ld (some 28)) [.t 7],ga 9 (.wX 28 .u8 false) [.t 6,.t 8],gm 10 9,gw 10 true 11 (.fa 37 1) [.t 2],gw 10 true 12 (.ld none) [.t 11],gw 10 true 13 (.fa 37 1) [.t 3],gw 10 true 14 (.ld none) [.t 13],gw 10 true 15 (.bin .num .eql) [.t 12,.t 14],ga 16 .pick [.t 10,.t 15,kb false],gm 17 16,gw 17 true 18 (.fa 37 2) [.t 2],gw 17 true 19 (.ld (some 22)) [.t 18],gw 17 true 20 (.fa 37 2) [.t 3],gw 17 true 21 (.ld (some 22)) [.t 20],gw 17 true 22 (.wX 22 .u8 false) [.t 19,.t 21],ga 23 .pick [.t 17,.t 22,kb false],gm 24 23,gw 24 true 25 (.fa 37 3) [.t 2],gw 24 true 26 (.ld none) [.t 25],gw 24 true 27 (.fa 37 3) [.t 3],gw 24 true 28 (.ld none) [.t 27],gw 24 true 29 (.call 146) [.t 26,.t 28],ga 30 .pick [.t 24,.t 29,kb false],gm 31 30,gw 31 true 32 (.fa 37 4) [.t 2],gw 31 true 33 (.ld none) [.t 32],gw 31 true 34 (.fa 37 4) [.t 3],gw 31 true 35 (.ld none) [.t 34],gw 31 true 36 (.bin .num .eql) [.t 33,.t 35],ga 37 .pick [.t 31,.t 36,kb false],gm 38 37,gw 38 true 39 (.fa 37 5) [.t 2],gw 38 true 40 (.ld none) [.t 39],gw 38 true 41 (.fa 37 5) [.t 3],gw 38 true 42 (.ld none) [.t 41],gw 38 true 43 (.bin .num .eql) [.t 40,.t 42],ga 44 .pick [.t 38,.t 43,kb false],gm 45 44,gw 45 true 46 (.fa 37 6) [.t 2],gw 45 true 47 (.ld (some 22)) [.t 46],gw 45 true 48 (.fa 37 6) [.t 3],gw 45 true 49 (.ld (some 22)) [.t 48],gw 45 true 50 (.wX 22 .u8 false) [.t 47,.t 49],ga 51 .pick [.t 45,.t 50,kb false],gm 52 51,gw 52 true 53 (.fa 37 7) [.t 2],gw 52 true 54 (.ld none) [.t 53],gw 52 true 55 (.fa 37 7) [.t 3],gw 52 true 56 (.ld none) [.t 55],gw 52 true 57 (.bin .tru .eql) [.t 54,.t 56],ga 58 .pick [.t 52,.t 57,kb false],gm 59 58,gw 59 true 60 (.fa 37 8) [.t 2],gw 59 true 61 (.ld none) [.t 60],gw 59 true 62 (.fa 37 8) [.t 3],gw 59 true 63 (.ld none) [.t 62],gw 59 true 64 (.bin .tru .eql) [.t 61,.t 63],ga 65 .pick [.t 59,.t 64,kb false],gm 4 65]) .ret))
abbrev Xg :Go.Vm.Fn:=⟨66,LW,[(.t 4)],true⟩
theorem Qs :bC Tryz.prog ob Tryz.f126 true=some Xg:=by kernel_rfl
theorem Qt :LW.fits 66=true:=by kernel_rfl
def Ed :Go.Vm.C:=(.seq (.af [ga 1 (.box (some 37)) [.t 0],ga 2 (.dj (some 37) (.st 37 [(z4 28),ku,(aK 22),kx,ki,ki,(aK 22),(.s (.bool false)),(.s (.bool false))])) []]) (.seq (.af [ga 3 (.fa 37 3) [.t 1],ga 4 (.ld none) [.t 3],ga 5 (.call 89) [.t 4],ga 6 (.fa 37 3) [.t 1],gn (.aP none) [.t 6,.t 5]]) (.seq (.af [ga 7 (.ld (some 37)) [.t 1],gn (.aP (some 37)) [.t 2,.t 7]]) .ret)))
abbrev Xh :Go.Vm.Fn:=⟨8,Ed,[(.cell 2 (some 37))],true⟩
theorem Qu :bC Tryz.prog ob Tryz.f127 true=some Xh:=by kernel_rfl
theorem Qv :Ed.fits 8=true:=by kernel_rfl
def Ee :Go.Vm.C:=(.seq (.af [ga 3 (.box (some 37)) [.t 0],ga 4 (.box (some 33)) [.t 1],ga 5 (.box (some 45)) [.t 2],ga 6 (.dj (some 37) (.st 37 [(z4 28),ku,(aK 22),kx,ki,ki,(aK 22),(.s (.bool false)),(.s (.bool false))])) [],ga 7 (.dj (some 45) (.st 45 [ki,(z4 28),ku,ki,kx,ki,ku])) [],ga 8 .mv [kb false]]) (.seq (.seq (.af [ga 10 (.fa 37 1) [.t 3],ga 11 (.ld none) [.t 10],ga 12 (.bin .num .geq) [.t 11,(.c (.s (.int .u64 1099511627776)))]]) (.cond (.t 12) (.seq (.af [ga 13 (.fa 45 0) [.t 5],gn (.aP none) [.t 13,kc 31]]) (.seq (.bc [gl 0 0 (ga 14 (.ld (some 37)) [.t 3]),gl 0 1 (ga 15 (.ld (some 45)) [.t 5]),gl 0 1 (gn (.aP (some 37)) [.t 6,.t 14]),gl 1 2 (gn (.aP (some 45)) [.t 7,.t 15]),gl 2 2 (ga 8 .mv [kb false])]) .ret)) .skip)) (.seq (.bc [gl 0 1 (ga 16 (.fa 33 1) [.t 4]),gl 0 1 (ga 17 (.ld (some 28)) [.t 16]),gl 0 1 (ga 18 (.fa 37 1) [.t 3]),gl 0 1 (ga 19 (.ld none) [.t 18]),gl 0 1 (ga 20 (.bin .num .add) [.t 19,(.c (.s (.int .u64 1)))]),gl 0 1 (ga 21 (.fa 33 2) [.t 4]),gl 0 1 (ga 22 (.ld (some 22)) [.t 21]),gl 0 0 (ga 23 (.fa 33 3) [.t 4]),gl 0 0 (ga 24 (.ld none) [.t 23]),gl 0 1 (ga 25 (.call 89) [.t 24]),gl 0 1 (ga 26 (.fa 33 4) [.t 4]),gl 0 1 (ga 27 (.ld none) [.t 26]),gl 0 1 (ga 28 (.fa 33 5) [.t 4]),gl 0 1 (ga 29 (.ld (some 22)) [.t 28]),gl 1 1 (ga 30 (.cG 37 [(z4 28),ku,(aK 22),kx,ki,ki,(aK 22),(.s (.bool false)),(.s (.bool false))] [0,1,2,3,4,6]) [.t 17,.t 20,.t 22,.t 25,.t 27,.t 29]),gl 0 1 (gn .nop []),gl 1 1 (ga 9 (.fzp (some 37)) [.t 30])]) (.seq (.bc [gl 0 0 (ga 31 (.fa 37 1) [.t 9]),gl 0 0 (ga 32 (.ld none) [.t 31]),gl 0 1 (ga 33 (.fa 37 4) [.t 9]),gl 0 1 (ga 34 (.ld none) [.t 33]),gl 0 0 (ga 35 (.fa 45 2) [.t 5]),gl 0 1 (gn (.aP none) [.t 35,.t 32]),gl 1 1 (ga 36 (.fa 45 3) [.t 5]),gl 1 2 (gn (.aP none) [.t 36,.t 34])]) (.seq (.bc [gl 0 0 (ga 37 (.ld (some 37)) [.t 9]),gl 0 1 (ga 38 (.ld (some 45)) [.t 5]),gl 0 1 (gn (.aP (some 37)) [.t 6,.t 37]),gl 1 2 (gn (.aP (some 45)) [.t 7,.t 38]),gl 2 2 (ga 8 .mv [kb true])]) .ret)))))
abbrev Xi :Go.Vm.Fn:=⟨39,Ee,[(.cell 6 (some 37)),(.cell 7 (some 45)),(.t 8)],true⟩
theorem Qw :bC Tryz.prog ob Tryz.f128 true=some Xi:=by kernel_rfl
theorem Qx :Ee.fits 39=true:=by kernel_rfl
def LX :Go.Vm.C:=(.seq (.af [ga 2 (.box (some 37)) [.t 0],ga 3 (.box (some 33)) [.t 1],ga 4 .mv [kc 0]]) (.seq (.block 0 (.seq (.af [ga 6 (.fa 37 1) [.t 2],ga 7 (.ld none) [.t 6],ga 8 (.bin .num .eql) [.t 7,(.c ku)],gm 5 8]) (.cond (.t 5) (.seq (.af [ga 4 .mv [kc 22]]) .ret) (.seq (.af [ga 10 (.fa 37 7) [.t 2],ga 11 (.ld none) [.t 10],gm 9 11]) (.cond (.t 9) (.seq (.af [ga 4 .mv [kc 24]]) .ret) (.seq (.af [ga 13 (.fa 33 0) [.t 3],ga 14 (.ld none) [.t 13],ga 15 (.bin .num .neq) [.t 14,kc 2],gm 16 15,gw 16 true 17 (.fa 33 5) [.t 3],gw 16 true 18 (.ld (some 22)) [.t 17],gw 16 true 19 (.fa 37 6) [.t 2],gw 16 true 20 (.ld (some 22)) [.t 19],gw 16 true 21 (.wX 22 .u8 true) [.t 18,.t 20],ga 22 .pick [.t 16,.t 21,kb false],gm 12 22]) (.cond (.t 12) (.seq (.af [ga 4 .mv [kc 25]]) .ret) .skip))))))) (.seq (.af [ga 4 .mv [kc 0]]) .ret)))
abbrev Xj :Go.Vm.Fn:=⟨23,LX,[(.t 4)],true⟩
theorem Qy :bC Tryz.prog ob Tryz.f129 true=some Xj:=by kernel_rfl
theorem Qz :LX.fits 23=true:=by kernel_rfl
def Ef :Go.Vm.C:=(.seq (.af [ga 3 (.box (some 37)) [.t 0],ga 4 (.box (some 33)) [.t 1],ga 5 (.box (some 45)) [.t 2],ga 6 (.dj (some 37) (.st 37 [(z4 28),ku,(aK 22),kx,ki,ki,(aK 22),(.s (.bool false)),(.s (.bool false))])) [],ga 7 (.dj (some 45) (.st 45 [ki,(z4 28),ku,ki,kx,ki,ku])) [],ga 8 .mv [kb false]]) (.seq (.seq (.af [ga 9 (.fa 33 2) [.t 4],ga 10 (.ld (some 22)) [.t 9],ga 11 (.fa 37 2) [.t 3],ga 12 (.ld (some 22)) [.t 11],ga 13 (.wX 22 .u8 false) [.t 10,.t 12]]) (.cond (.t 13) (.seq (.bc [gl 0 0 (ga 14 (.fa 37 3) [.t 3]),gl 0 0 (ga 15 (.ld none) [.t 14]),gl 0 1 (ga 16 (.call 89) [.t 15]),gl 0 1 (ga 17 (.ld (some 37)) [.t 3]),gl 1 2 (ga 18 (.call 147) [.t 17]),gl 1 2 (ga 19 (.fa 45 4) [.t 5]),gl 2 3 (gn (.aP none) [.t 19,.t 16]),gl 3 3 (ga 20 (.fa 45 3) [.t 5]),gl 3 4 (gn (.aP none) [.t 20,.t 18])]) (.seq (.bc [gl 0 0 (ga 21 (.ld (some 37)) [.t 3]),gl 0 1 (ga 22 (.ld (some 45)) [.t 5]),gl 0 1 (gn (.aP (some 37)) [.t 6,.t 21]),gl 1 2 (gn (.aP (some 45)) [.t 7,.t 22]),gl 2 2 (ga 8 .mv [kb false])]) .ret)) .skip)) (.seq (.af [ga 23 (.fa 45 0) [.t 5],gn (.aP none) [.t 23,kc 23]]) (.seq (.af [ga 24 (.fa 37 5) [.t 3],ga 25 (.ld none) [.t 24],ga 26 (.bin .num .add) [.t 25,kc 1],ga 27 (.fa 37 5) [.t 3],gn (.aP none) [.t 27,.t 26]]) (.seq (.seq (.af [ga 28 (.fa 37 5) [.t 3],ga 29 (.ld none) [.t 28],ga 30 (.fa 37 4) [.t 3],ga 31 (.ld none) [.t 30],ga 32 (.bin .num .eql) [.t 29,.t 31]]) (.cond (.t 32) (.seq (.bc [gl 0 0 (ga 33 (.ld (some 37)) [.t 3]),gl 0 1 (ga 34 (.call 131) [.t 33,kb true]),gl 0 2 (ga 35 (.ld (some 45)) [.t 5]),gl 1 2 (gn (.aP (some 37)) [.t 6,.t 34]),gl 2 3 (gn (.aP (some 45)) [.t 7,.t 35]),gl 3 3 (ga 8 .mv [kb true])]) .ret) .skip)) (.seq (.af [ga 36 (.ld (some 37)) [.t 3],ga 37 (.call 147) [.t 36],ga 38 (.fa 45 3) [.t 5],gn (.aP none) [.t 38,.t 37]]) (.seq (.bc [gl 0 0 (ga 39 (.ld (some 37)) [.t 3]),gl 0 1 (ga 40 (.ld (some 45)) [.t 5]),gl 0 1 (gn (.aP (some 37)) [.t 6,.t 39]),gl 1 2 (gn (.aP (some 45)) [.t 7,.t 40]),gl 2 2 (ga 8 .mv [kb true])]) .ret)))))))
abbrev Xk :Go.Vm.Fn:=⟨41,Ef,[(.cell 6 (some 37)),(.cell 7 (some 45)),(.t 8)],true⟩
theorem QA :bC Tryz.prog ob Tryz.f130 true=some Xk:=by kernel_rfl
theorem QC :Ef.fits 41=true:=by kernel_rfl
def LY :Go.Vm.C:=(.seq (.af [ga 2 (.box (some 37)) [.t 0],ga 4 (.dj (some 37) (.st 37 [(z4 28),ku,(aK 22),kx,ki,ki,(aK 22),(.s (.bool false)),(.s (.bool false))])) []]) (.seq (.af [ga 5 (.fa 37 0) [.t 2],ga 6 (.ld (some 28)) [.t 5],ga 7 (.fa 37 1) [.t 2],ga 8 (.ld none) [.t 7],gm 9 1,ga 10 (.cG 37 [(z4 28),ku,(aK 22),kx,ki,ki,(aK 22),(.s (.bool false)),(.s (.bool false))] [0,1,7,8]) [.t 6,.t 8,kb true,.t 9],gn (.aP (some 37)) [.t 4,.t 10]]) .ret))
abbrev Xl :Go.Vm.Fn:=⟨11,LY,[(.cell 4 (some 37))],true⟩
theorem QD :bC Tryz.prog ob Tryz.f131 true=some Xl:=by kernel_rfl
theorem QE :LY.fits 11=true:=by kernel_rfl
def LZ :Go.Vm.C:=(.seq (.af [ga 1 (.box (some 45)) [.t 0],ga 2 .mv [kb false]]) (.seq (.af [ga 3 (.fa 45 5) [.t 1],ga 4 (.ld none) [.t 3],ga 5 (.fa 45 6) [.t 1],ga 6 (.ld none) [.t 5],ga 7 (.call 125) [.t 4,.t 6],gm 8 7,gw 8 true 9 (.fa 45 0) [.t 1],gw 8 true 10 (.ld none) [.t 9],gw 8 true 11 (.bin .num .geq) [.t 10,kc 0],ga 12 .pick [.t 8,.t 11,kb false],gm 13 12,gw 13 true 14 (.fa 45 0) [.t 1],gw 13 true 15 (.ld none) [.t 14],gw 13 true 16 (.bin .num .leq) [.t 15,kc 255],ga 17 .pick [.t 13,.t 16,kb false],gm 18 17,gw 18 true 19 (.fa 45 2) [.t 1],gw 18 true 20 (.ld none) [.t 19],gw 18 true 21 (.bin .num .leq) [.t 20,(.c (.s (.int .u64 1099511627776)))],ga 22 .pick [.t 18,.t 21,kb false],gm 23 22,gw 23 true 24 (.fa 45 3) [.t 1],gw 23 true 25 (.ld none) [.t 24],gw 23 true 26 (.bin .num .geq) [.t 25,kc 0],ga 27 .pick [.t 23,.t 26,kb false],gm 28 27,gw 28 true 29 (.fa 45 3) [.t 1],gw 28 true 30 (.ld none) [.t 29],gw 28 true 31 (.bin .num .leq) [.t 30,kc 32],ga 32 .pick [.t 28,.t 31,kb false],gm 33 32,gw 33 true 34 (.fa 45 4) [.t 1],gw 33 true 35 (.ld none) [.t 34],gw 33 true 36 .len [.t 35],gw 33 true 37 (.bin .num .leq) [.t 36,kc 64],ga 38 .pick [.t 33,.t 37,kb false],gm 2 38]) .ret))
abbrev Xm :Go.Vm.Fn:=⟨39,LZ,[(.t 2)],true⟩
theorem QF :bC Tryz.prog ob Tryz.f132 true=some Xm:=by kernel_rfl
theorem QG :LZ.fits 39=true:=by kernel_rfl
def HY :Go.Vm.C:=(.loop (.seq (.af [ga 12 (.bin .num .lss) [.t 11,.t 10]]) (.seq (.cond (.t 12) .skip (.exit 0)) (.seq (.block 1 (.seq (.af [ga 13 (.dz none) [.t 9,.t 11],ga 14 (.ld none) [.t 13],gm 5 14]) (.seq (.af [gm 15 3,gm 16 5,ga 17 .len [.t 16],ga 18 (.bin .num .add) [.t 15,.t 17],gm 3 18]) (.seq (.af [gm 19 3,ga 20 (.bin .num .lss) [.t 19,kc 0]]) (.cond (.t 20) (.af [ga 21 (.mki 9) [(.c (.s (.string ⟨#[108,101,110,32,111,117,116,32,111,102,32,114,97,110,103,101]⟩)))],gn .bad []]) .skip))))) (.af [ga 22 (.bin .num .add) [.t 11,kc 1],gm 11 22])))))
def HZ :Go.Vm.C:=(.loop (.seq (.af [ga 28 (.bin .num .lss) [.t 27,.t 26]]) (.seq (.cond (.t 28) .skip (.exit 2)) (.seq (.block 3 (.seq (.af [ga 29 (.dz none) [.t 25,.t 27],ga 30 (.ld none) [.t 29],gm 8 30]) (.af [gm 31 6,gm 32 8,ga 33 (.app none 1) [.t 31,.t 32],gm 6 33]))) (.af [ga 34 (.bin .num .add) [.t 27,kc 1],gm 27 34])))))
def Ia :Go.Vm.C:=(.seq (.af [gm 35 6,gm 2 35]) .ret)
def Ib :Go.Vm.C:=(.seq (.af [gm 23 3,ga 24 (.call 148) [(.c (.aq true none [])),.t 23],gm 6 24]) (.seq (.seq (.af [gm 25 0,ga 26 .len [.t 25],ga 27 .mv [kc 0]]) (.block 2 HZ)) Ia))
def QH :Go.Vm.C:=(.seq (.af [ga 2 .mv [(.c (.aq true none []))]]) (.seq (.af [ga 3 .mv [kc 0]]) (.seq (.seq (.af [gm 9 0,ga 10 .len [.t 9],ga 11 .mv [kc 0]]) (.block 0 HY)) Ib)))
abbrev Xn :Go.Vm.Fn:=⟨36,QH,[(.t 2)],true⟩
theorem QI :bC Tryz.prog ob Tryz.f133 true=some Xn:=by kernel_rfl
theorem QJ :QH.fits 36=true:=by kernel_rfl
def L0 :Go.Vm.C:=(.seq (.af [ga 2 .mv [kb false]]) (.seq (.af [gm 3 0,ga 4 (.bin .num .leq) [.t 3,(.c (.s (.int .u64 1099511627776)))],gm 2 4]) .ret))
abbrev Xo :Go.Vm.Fn:=⟨5,L0,[(.t 2)],true⟩
theorem QK :bC Tryz.prog ob Tryz.f134 true=some Xo:=by kernel_rfl
theorem QL :L0.fits 5=true:=by kernel_rfl
def Ic :Go.Vm.C:=(.loop (.seq (.af [ga 9 (.bin .num .lss) [.t 8,.t 7]]) (.seq (.cond (.t 9) .skip (.exit 0)) (.seq (.block 1 (.seq (.af [gm 10 8,gm 5 10]) (.seq (.af [gm 11 1,gm 12 0,gm 13 5,ga 14 (.dz (some 37)) [.t 12,.t 13],ga 15 (.ld (some 37)) [.t 14],ga 16 .mD [.t 11,.t 15]]) (.cond (.t 16) (.seq (.af [gm 17 5,gm 4 17]) .ret) .skip)))) (.af [ga 18 (.bin .num .add) [.t 8,kc 1],gm 8 18])))))
def Ie :Go.Vm.C:=(.seq (.af [ga 4 .mv [kc (-1)]]) .ret)
def QM :Go.Vm.C:=(.seq (.af [ga 4 .mv [kc 0]]) (.seq (.seq (.af [gm 6 0,ga 7 .len [.t 6],ga 8 .mv [kc 0]]) (.block 0 Ic)) Ie))
abbrev Xp :Go.Vm.Fn:=⟨19,QM,[(.t 4)],true⟩
theorem QN :bC Tryz.prog ob Tryz.f135 true=some Xp:=by kernel_rfl
theorem QO :QM.fits 19=true:=by kernel_rfl
def AT :Go.Vm.C:=(.loop (.seq (.seq (.af [gm 13 7,ga 14 .len [.t 13],gm 15 2,ga 16 (.bin .num .lss) [.t 14,.t 15]]) (.cond (.t 16) .skip (.exit 0))) (.seq (.block 1 (.seq (.bc [gl 0 3 (ga 19 (.ld (some 22)) [.t 3]),gl 0 0 (gm 20 1),gl 0 1 (ga 21 (.call 99) [.t 20]),gl 0 1 (gm 22 8),gl 1 2 (ga 23 (.call 99) [.t 22]),gl 2 3 (ga 24 (.app none 1) [.t 21,.t 23]),gl 3 3 (ga 25 (.eB 44) [.t 19,.t 24]),gl 0 3 (gn .nop []),gl 3 3 (ga 9 (.fzp (some 22)) [.t 25])]) (.af [gm 26 7,ga 27 (.mC 22 none false false) [.t 9],ga 28 (.app none 1) [.t 26,.t 27],gm 7 28]))) (.af [gm 17 8,ga 18 (.bin .num .add) [.t 17,(.c (.s (.int .u64 1)))],gm 8 18]))))
def AU :Go.Vm.C:=(.seq (.af [gm 29 7,gm 30 2,ga 31 (.j2 none false true false) [.t 29,.t 30],ga 32 (.call 89) [.t 31],gm 6 32]) .ret)
def L1 :Go.Vm.C:=(.seq (.af [ga 3 (.box (some 22)) [.t 0],ga 6 .mv [(.c (.aq true none []))]]) (.seq (.af [gm 10 2,ga 11 .min [.t 10,kc 8192],ga 12 .max [kc 0,.t 11],gm 2 12]) (.seq (.af [ga 7 .mv [(.c (.aq true none []))]]) (.seq (.seq (.af [ga 8 .mv [(.c ku)]]) (.block 0 AT)) AU))))
abbrev Xq :Go.Vm.Fn:=⟨33,L1,[(.t 6)],false⟩
theorem QP :bC Tryz.prog ob Tryz.f136 false=some Xq:=by kernel_rfl
theorem QQ :L1.fits 33=true:=by kernel_rfl
def L2 :Go.Vm.C:=(.seq (.af [ga 4 .mv [(.c (.s (.int .u32 0)))]]) (.seq (.af [gm 6 1,ga 7 (.gI .u64) [.t 6],ga 8 (.bin .num .and) [.t 7,(.c (.s (.int .u64 31)))],gm 5 8]) (.seq (.af [gm 9 0,gm 10 5,ga 11 (.bin .num .shl) [.t 9,.t 10],gm 12 0,gm 13 5,ga 14 (.bin .num .sub) [(.c (.s (.int .u64 32))),.t 13],ga 15 (.bin .num .shr) [.t 12,.t 14],ga 16 (.bin .num .or) [.t 11,.t 15],gm 4 16]) .ret)))
abbrev QR :Go.Vm.Fn:=⟨17,L2,[(.t 4)],true⟩
theorem Ig :bC Tryz.prog ob Tryz.f137 true=some QR:=by kernel_rfl
theorem QS :L2.fits 17=true:=by kernel_rfl
def AV :Go.Vm.C:=(.loop (.seq (.seq (.af [gm 15 9,gm 16 10,ga 17 (.bin .num .lss) [.t 15,.t 16]]) (.cond (.t 17) .skip (.exit 0))) (.block 1 (.seq (.af [gm 18 9,gm 19 10,ga 20 (.bin .num .add) [.t 18,.t 19],ga 21 (.gI .u64) [.t 20],ga 22 (.bin .num .shr) [.t 21,(.c (.s (.int .u64 1)))],ga 23 (.gI .i64) [.t 22],gm 11 23]) (.seq (.af [gm 24 2,gm 25 0,gm 26 11,ga 27 (.dz (some 37)) [.t 25,.t 26],ga 28 (.ld (some 37)) [.t 27],ga 29 (.ld (some 28)) [.t 4],ga 30 .mD [.t 24,.t 28,.t 29],ga 31 (.bin .num .lss) [.t 30,kc 0]]) (.cond (.t 31) (.af [gm 32 11,ga 33 (.bin .num .add) [.t 32,kc 1],gm 9 33]) (.af [gm 34 11,gm 10 34])))))))
def AW :Go.Vm.C:=(.seq (.af [gm 35 9,gm 36 9,gm 37 8,ga 38 (.bin .num .lss) [.t 36,.t 37],gm 39 38,gw 39 true 40 .mv [.t 2],gw 39 true 41 .mv [.t 0],gw 39 true 42 .mv [.t 9],gw 39 true 43 (.dz (some 37)) [.t 41,.t 42],gw 39 true 44 (.ld (some 37)) [.t 43],gw 39 true 45 (.ld (some 28)) [.t 4],gw 39 true 46 .mD [.t 40,.t 44,.t 45],gw 39 true 47 (.bin .num .eql) [.t 46,kc 0],ga 48 .pick [.t 39,.t 47,kb false],gm 6 35,gm 7 48]) .ret)
def L3 :Go.Vm.C:=(.seq (.af [ga 4 (.box (some 28)) [.t 1],ga 6 .mv [kc 0],ga 7 .mv [kb false]]) (.seq (.af [gm 12 0,ga 13 .len [.t 12],gm 8 13]) (.seq (.af [gm 14 8,ga 9 .mv [kc 0],gm 10 14]) (.seq (.block 0 AV) AW))))
abbrev Xr :Go.Vm.Fn:=⟨49,L3,[(.t 6),(.t 7)],true⟩
theorem QT :bC Tryz.prog ob Tryz.f138 true=some Xr:=by kernel_rfl
theorem QU :L3.fits 49=true:=by kernel_rfl
def L4 :Go.Vm.C:=(.seq (.af [ga 2 (.box (some 37)) [.t 0],ga 3 (.box (some 28)) [.t 1],ga 4 .mv [kc 0]]) (.seq (.af [ga 5 (.fa 37 0) [.t 2],ga 6 (.mC 28 none false false) [.t 5],ga 7 (.mC 28 none false false) [.t 3],ga 8 (.call 110) [.t 6,.t 7],gm 4 8]) .ret))
abbrev Xs :Go.Vm.Fn:=⟨9,L4,[(.t 4)],true⟩
theorem QV :bC Tryz.prog ob Tryz.f139 true=some Xs:=by kernel_rfl
theorem QW :L4.fits 9=true:=by kernel_rfl
def aas :Go.Vm.C:=(.af [gm 4 0,gm 5 0,ga 6 .len [.t 5],gm 7 1,ga 8 (.bin .num .sub) [.t 6,.t 7],ga 9 (.call 149) [.t 4,.t 8]])
abbrev Xt :Go.Vm.Fn:=⟨10,aas,[],true⟩
theorem QX :bC Tryz.prog ob Tryz.f141 true=some Xt:=by kernel_rfl
def pg :Go.Vm.C:=(.seq (.af [ga 7 (.box none) [.t 1],ga 12 .mv [kb false]]) (.seq (.block 0 (.seq (.af [ga 14 (.ld none) [.t 7],ga 15 (.call 88) [.t 14],ga 16 (.un .not) [.t 15],gm 17 16,gw 17 false 18 .mv [.t 2],gw 17 false 19 (.bin .num .lss) [.t 18,kc 0],ga 20 .pick [.t 17,kb true,.t 19],gm 21 20,gw 21 false 22 .mv [.t 2],gw 21 false 23 (.bin .num .gtr) [.t 22,kc 2],ga 24 .pick [.t 21,kb true,.t 23],gm 25 24,gw 25 false 26 .mv [.t 3],gw 25 false 27 (.bin .num .lss) [.t 26,(.c (.s (.int .u64 1)))],ga 28 .pick [.t 25,kb true,.t 27],gm 29 28,gw 29 false 30 .mv [.t 3],gw 29 false 31 (.bin .num .gtr) [.t 30,(.c (.s (.int .u64 1099511627776)))],ga 32 .pick [.t 29,kb true,.t 31],gm 13 32]) (.cond (.t 13) (.seq (.af [ga 12 .mv [kb false]]) .ret) (.seq (.seq (.af [gm 34 2,ga 35 (.bin .num .eql) [.t 34,kc 2],gm 36 35,gw 36 true 37 .mv [.t 4],gw 36 true 38 (.bin .num .lss) [.t 37,kc 0],gw 36 true 39 .mv [.t 38],gw 39 false 40 .mv [.t 4],gw 39 false 41 .mv [.t 0],gw 39 false 42 .bL [.t 41],gw 39 false 43 (.fa 92 1) [.t 42],gw 39 false 44 (.ld none) [.t 43],gw 39 false 45 (.bin .num .geq) [.t 40,.t 44],gw 36 true 46 .pick [.t 39,kb true,.t 45],gw 36 true 47 .mv [.t 46],gw 47 false 48 .mv [.t 4],gw 47 false 49 .mv [.t 0],gw 47 false 50 .bL [.t 49],gw 47 false 51 (.fa 92 0) [.t 50],gw 47 false 52 (.ld none) [.t 51],gw 47 false 53 (.bin .num .eql) [.t 48,.t 52],gw 36 true 54 .pick [.t 47,kb true,.t 53],ga 55 .pick [.t 36,.t 54,kb false],gm 33 55]) (.cond (.t 33) .skip (.af [gm 56 2,ga 57 (.bin .num .neq) [.t 56,kc 2],gm 58 57,gw 58 true 59 .mv [.t 4],gw 58 true 60 (.bin .num .neq) [.t 59,kc 0],ga 61 .pick [.t 58,.t 60,kb false],gm 33 61]))) (.cond (.t 33) (.seq (.af [ga 12 .mv [kb false]]) .ret) (.seq (.af [gm 63 2,ga 64 (.bin .num .eql) [.t 63,kc 0],gm 65 64,gw 65 true 66 .mv [.t 5],gw 65 true 67 .len [.t 66],gw 65 true 68 (.bin .num .gtr) [.t 67,kc 0],ga 69 .pick [.t 65,.t 68,kb false],gm 62 69]) (.cond (.t 62) (.seq (.af [ga 12 .mv [kb false]]) .ret) .skip))))))) (.seq (.af [gm 70 5,ga 71 (.mkf 150) [.t 7],ga 72 (.call 96) [.t 70,.t 71],ga 73 (.un .not) [.t 72],gm 12 73]) .ret)))
abbrev Xu :Go.Vm.Fn:=⟨74,pg,[(.t 12)],true⟩
theorem QY :bC Tryz.prog ob Tryz.f143 true=some Xu:=by kernel_rfl
theorem QZ :pg.fits 74=true:=by kernel_rfl
def Q0 :Go.Vm.C:=(.seq (.af [ga 4 .mv [kb false]]) (.seq (.af [gm 5 0,gm 6 1,ga 7 (.call 146) [.t 5,.t 6],gm 4 7]) .ret))
abbrev Xv :Go.Vm.Fn:=⟨8,Q0,[(.t 4)],true⟩
theorem Q1 :bC Tryz.prog ob Tryz.f144 true=some Xv:=by kernel_rfl
theorem Q2 :Q0.fits 8=true:=by kernel_rfl
def L5 :Go.Vm.C:=(.seq (.af [ga 4 .mv [(.c (.aq true none []))]]) (.seq (.seq (.af [gm 6 0,ga 7 .bL [.t 6],ga 8 (.fa 160 0) [.t 7],ga 9 (.ld none) [.t 8],ga 10 .len [.t 9],gm 11 1,ga 12 (.bin .num .lss) [.t 10,.t 11]]) (.cond (.t 12) (.seq (.af [gm 13 0,gm 14 0,ga 15 .bL [.t 13],ga 16 (.fa 160 0) [.t 15],gn (.aP none) [.t 16,(.c (.aq true none []))],ga 17 .bL [.t 14],ga 18 (.fa 160 1) [.t 17],gn (.aP none) [.t 18,kb true]]) (.seq (.af [gm 19 1,ga 20 (.mks none (.s (.int .u8 0))) [.t 19,.t 19],gm 4 20]) .ret)) .skip)) (.seq (.af [gm 21 0,ga 22 .bL [.t 21],ga 23 (.fa 160 0) [.t 22],ga 24 (.ld none) [.t 23],gm 25 1,ga 26 (.j2 none false true false) [.t 24,.t 25],gm 5 26]) (.seq (.af [gm 27 0,gm 28 0,ga 29 .bL [.t 28],ga 30 (.fa 160 0) [.t 29],ga 31 (.ld none) [.t 30],gm 32 1,ga 33 (.j2 none true false false) [.t 31,.t 32],ga 34 .bL [.t 27],ga 35 (.fa 160 0) [.t 34],gn (.aP none) [.t 35,.t 33]]) (.seq (.af [gm 36 5,gm 4 36]) .ret)))))
abbrev Xw :Go.Vm.Fn:=⟨37,L5,[(.t 4)],true⟩
theorem Q3 :bC Tryz.prog ob Tryz.f145 true=some Xw:=by kernel_rfl
theorem Ih :L5.fits 37=true:=by kernel_rfl
def L6 :Go.Vm.C:=(.seq (.af [ga 4 .mv [kb false]]) (.seq (.af [gm 5 0,ga 6 .Eb [.t 5],gm 7 1,ga 8 .Eb [.t 7],ga 9 (.bin .num .eql) [.t 6,.t 8],gm 4 9]) .ret))
abbrev Xx :Go.Vm.Fn:=⟨10,L6,[(.t 4)],true⟩
theorem Q4 :bC Tryz.prog ob Tryz.f146 true=some Xx:=by kernel_rfl
theorem Ii :L6.fits 10=true:=by kernel_rfl
def L7 :Go.Vm.C:=(.seq (.af [ga 1 (.box (some 37)) [.t 0],ga 2 .mv [kc 0]]) (.seq (.seq (.af [ga 3 (.fa 37 7) [.t 1],ga 4 (.ld none) [.t 3],gm 5 4,gw 5 false 6 (.ld (some 37)) [.t 1],gw 5 false 7 (.call 92) [.t 6],gw 5 false 8 (.un .not) [.t 7],ga 9 .pick [.t 5,kb true,.t 8]]) (.cond (.t 9) (.seq (.af [ga 2 .mv [kc 0]]) .ret) .skip)) (.seq (.af [ga 10 (.fa 37 4) [.t 1],ga 11 (.ld none) [.t 10],ga 12 (.fa 37 5) [.t 1],ga 13 (.ld none) [.t 12],ga 14 (.bin .num .sub) [.t 11,.t 13],gm 2 14]) .ret)))
abbrev Xy :Go.Vm.Fn:=⟨15,L7,[(.t 2)],true⟩
theorem Q5 :bC Tryz.prog ob Tryz.f147 true=some Xy:=by kernel_rfl
theorem Q6 :L7.fits 15=true:=by kernel_rfl
def L8 :Go.Vm.C:=(.seq (.af [ga 4 .mv [(.c (.aq true none []))]]) (.seq (.seq (.af [gm 5 1,ga 6 (.bin .num .lss) [.t 5,kc 0]]) (.cond (.t 6) (.af [ga 7 (.mki 9) [(.c (.s (.string ⟨#[99,97,110,110,111,116,32,98,101,32,110,101,103,97,116,105,118,101]⟩)))],gn .bad []]) .skip)) (.seq (.seq (.af [gm 8 1,gm 9 0,ga 10 .cap [.t 9],gm 11 0,ga 12 .len [.t 11],ga 13 (.bin .num .sub) [.t 10,.t 12],ga 14 (.bin .num .sub) [.t 8,.t 13],gm 1 14]) (.seq (.af [gm 15 1,ga 16 (.bin .num .gtr) [.t 15,kc 0]]) (.cond (.t 16) (.af [gm 17 0,gm 18 0,ga 19 .cap [.t 18],ga 20 (.j2 none false true false) [.t 17,.t 19],gm 21 1,ga 22 (.apz none 1 (.s (.int .u8 0))) [.t 20,.t 21],gm 23 0,ga 24 .len [.t 23],ga 25 (.j2 none false true false) [.t 22,.t 24],gm 0 25]) .skip))) (.seq (.af [gm 26 0,gm 4 26]) .ret))))
abbrev Xz :Go.Vm.Fn:=⟨27,L8,[(.t 4)],false⟩
theorem Q7 :bC Tryz.prog ob Tryz.f148 false=some Xz:=by kernel_rfl
theorem Q8 :L8.fits 27=true:=by kernel_rfl
def aat :Go.Vm.C:=(.seq (.af [gm 4 0,gm 5 1,ga 6 (.j2 (some 37) false true false) [.t 4,.t 5],ga 7 (.call 151) [.t 6]]) (.seq (.af [gm 8 0,gm 9 1,ga 10 (.j2 (some 37) true false false) [.t 8,.t 9],ga 11 (.call 151) [.t 10]]) (.af [gm 12 0,ga 13 (.call 151) [.t 12]])))
abbrev XA :Go.Vm.Fn:=⟨14,aat,[],true⟩
theorem Q9 :bC Tryz.prog ob Tryz.f149 true=some XA:=by kernel_rfl
def Ra :Go.Vm.C:=(.seq (.af [ga 2 (.box (some 37)) [.t 0],ga 3 .mv [kb false]]) (.seq (.bc [gl 0 0 (ga 4 (.fa 37 0) [.t 2]),gl 0 0 (ga 5 (.ld (some 28)) [.t 4]),gl 0 1 (ga 6 (.call 59) [.t 5]),gl 0 1 (ga 7 (.ld none) [.t 1]),gl 1 1 (ga 8 (.bin .num .neq) [.t 6,.t 7]),gl 1 1 (gm 3 8)]) .ret))
abbrev XB :Go.Vm.Fn:=⟨9,Ra,[(.t 3)],true⟩
theorem Rb :bC Tryz.prog ob Tryz.f150 true=some XB:=by kernel_rfl
theorem Rc :Ra.fits 9=true:=by kernel_rfl
def Re :Go.Vm.C:=(.loop (.seq (.seq (.af [gm 7 2,gm 8 3,ga 9 (.bin .num .lss) [.t 7,.t 8]]) (.cond (.t 9) .skip (.exit 0))) (.seq (.block 1 (.af [gm 14 0,gm 15 2,gm 16 0,gm 17 3,gm 18 0,gm 19 3,ga 20 (.dz (some 37)) [.t 18,.t 19],ga 21 (.ld (some 37)) [.t 20],gm 22 0,gm 23 2,ga 24 (.dz (some 37)) [.t 22,.t 23],ga 25 (.ld (some 37)) [.t 24],ga 26 (.dz (some 37)) [.t 14,.t 15],gn (.aP (some 37)) [.t 26,.t 21],ga 27 (.dz (some 37)) [.t 16,.t 17],gn (.aP (some 37)) [.t 27,.t 25]])) (.af [gm 10 2,ga 11 (.bin .num .add) [.t 10,kc 1],gm 12 3,ga 13 (.bin .num .sub) [.t 12,kc 1],gm 2 11,gm 3 13]))))
def aau :Go.Vm.C:=(.seq (.af [gm 4 0,ga 5 .len [.t 4],ga 6 (.bin .num .sub) [.t 5,kc 1],ga 2 .mv [kc 0],gm 3 6]) (.block 0 Re))
abbrev XC :Go.Vm.Fn:=⟨28,aau,[],true⟩
theorem Rf :bC Tryz.prog ob Tryz.f151 true=some XC:=by kernel_rfl
theorem oI :(ak Tryz.prog).OK:=Ij (by kernel_rfl)
def Ik :Nat→Option Go.Vm.Fn:=fun
 | 3=> some F3
 | 4=> some F4
 | 5=> some F5
 | 6=> some F6
 | 7=> some F7
 | 8=> some F8
 | 9=> some F9
 | 10=> some F10
 | 11=> some F11
 | 12=> some F12
 | 13=> some F13
 | 14=> some F14
 | 15=> some F15
 | 16=> some F16
 | 17=> some F17
 | 18=> some F18
 | 19=> some F19
 | 20=> some F20
 | 21=> some F21
 | 22=> some F22
 | 23=> some F23
 | 24=> some F24
 | 25=> some F25
 | 26=> some F26
 | 27=> some F27
 | 28=> some F28
 | 29=> some F29
 | 30=> some F30
 | 31=> some F31
 | 32=> some F32
 | 33=> some F33
 | 34=> some F34
 | 35=> some F35
 | 36=> some F36
 | 37=> some F37
 | 38=> some F38
 | 39=> some F39
 | 40=> some F40
 | 41=> some F41
 | 42=> some F42
 | 43=> some F43
 | 44=> some F44
 | 45=> some F45
 | 46=> some F46
 | 47=> some F47
 | _=> none
theorem Il :qW Tryz.prog Ik:=by
 intro f F hf
 unfold Ik at hf
 split at hf
 ·cases hf;exact ⟨_,_,Tryz.func3,aad⟩
 ·cases hf;exact ⟨_,_,Tryz.func4,aah⟩
 ·cases hf;exact ⟨_,_,Tryz.func5,aai⟩
 ·cases hf;exact ⟨_,_,Tryz.func6,aak⟩
 ·cases hf;exact ⟨_,_,Tryz.func7,aam⟩
 ·cases hf;exact ⟨_,_,Tryz.func8,aao⟩
 ·cases hf;exact ⟨_,_,Tryz.func9,aaq⟩
 ·cases hf;exact ⟨_,_,Tryz.func10,T1⟩
 ·cases hf;exact ⟨_,_,Tryz.func11,T4⟩
 ·cases hf;exact ⟨_,_,Tryz.func12,T5⟩
 ·cases hf;exact ⟨_,_,Tryz.func13,T7⟩
 ·cases hf;exact ⟨_,_,Tryz.func14,T9⟩
 ·cases hf;exact ⟨_,_,Tryz.func15,Ua⟩
 ·cases hf;exact ⟨_,_,Tryz.func16,Uc⟩
 ·cases hf;exact ⟨_,_,Tryz.func17,Ue⟩
 ·cases hf;exact ⟨_,_,Tryz.func18,Ug⟩
 ·cases hf;exact ⟨_,_,Tryz.func19,Ui⟩
 ·cases hf;exact ⟨_,_,Tryz.func20,Uk⟩
 ·cases hf;exact ⟨_,_,Tryz.func21,Um⟩
 ·cases hf;exact ⟨_,_,Tryz.func22,Uo⟩
 ·cases hf;exact ⟨_,_,Tryz.func23,Uq⟩
 ·cases hf;exact ⟨_,_,Tryz.func24,Us⟩
 ·cases hf;exact ⟨_,_,Tryz.func25,Uu⟩
 ·cases hf;exact ⟨_,_,Tryz.func26,Uw⟩
 ·cases hf;exact ⟨_,_,Tryz.func27,Uy⟩
 ·cases hf;exact ⟨_,_,Tryz.func28,UA⟩
 ·cases hf;exact ⟨_,_,Tryz.func29,UC⟩
 ·cases hf;exact ⟨_,_,Tryz.func30,UE⟩
 ·cases hf;exact ⟨_,_,Tryz.func31,UG⟩
 ·cases hf;exact ⟨_,_,Tryz.func32,UI⟩
 ·cases hf;exact ⟨_,_,Tryz.func33,UK⟩
 ·cases hf;exact ⟨_,_,Tryz.func34,UM⟩
 ·cases hf;exact ⟨_,_,Tryz.func35,UO⟩
 ·cases hf;exact ⟨_,_,Tryz.func36,UQ⟩
 ·cases hf;exact ⟨_,_,Tryz.func37,US⟩
 ·cases hf;exact ⟨_,_,Tryz.func38,UU⟩
 ·cases hf;exact ⟨_,_,Tryz.func39,UX⟩
 ·cases hf;exact ⟨_,_,Tryz.func40,UZ⟩
 ·cases hf;exact ⟨_,_,Tryz.func41,U1⟩
 ·cases hf;exact ⟨_,_,Tryz.func42,U3⟩
 ·cases hf;exact ⟨_,_,Tryz.func43,U5⟩
 ·cases hf;exact ⟨_,_,Tryz.func44,U7⟩
 ·cases hf;exact ⟨_,_,Tryz.func45,U9⟩
 ·cases hf;exact ⟨_,_,Tryz.func46,Vb⟩
 ·cases hf;exact ⟨_,_,Tryz.func47,Vd⟩
 ·cases hf
def Im :Nat→Option Go.Vm.Fn:=fun
 | 48=> some F48
 | 49=> some F49
 | 50=> some F50
 | 51=> some F51
 | 52=> some F52
 | 53=> some F53
 | 54=> some F54
 | 56=> some F56
 | 57=> some F57
 | 58=> some F58
 | 59=> some F59
 | 60=> some F60
 | 61=> some F61
 | 62=> some F62
 | 63=> some F63
 | 64=> some F64
 | 65=> some F65
 | 66=> some F66
 | 67=> some F67
 | 68=> some F68
 | 69=> some F69
 | 70=> some F70
 | 71=> some F71
 | 72=> some F72
 | 73=> some F73
 | 74=> some F74
 | 75=> some F75
 | 76=> some F76
 | 77=> some F77
 | 78=> some F78
 | 79=> some F79
 | 80=> some F80
 | 81=> some F81
 | 82=> some F82
 | 83=> some F83
 | 84=> some F84
 | 85=> some F85
 | 86=> some F86
 | 87=> some F87
 | 88=> some F88
 | 90=> some F90
 | 91=> some F91
 | 92=> some F92
 | 93=> some F93
 | 94=> some F94
 | _=> none
theorem Io :qW Tryz.prog Im:=by
 intro f F hf
 unfold Im at hf
 split at hf
 ·cases hf;exact ⟨_,_,Tryz.func48,Vf⟩
 ·cases hf;exact ⟨_,_,Tryz.func49,Vh⟩
 ·cases hf;exact ⟨_,_,Tryz.func50,Vj⟩
 ·cases hf;exact ⟨_,_,Tryz.func51,Vl⟩
 ·cases hf;exact ⟨_,_,Tryz.func52,Vo⟩
 ·cases hf;exact ⟨_,_,Tryz.func53,Vq⟩
 ·cases hf;exact ⟨_,_,Tryz.func54,Vs⟩
 ·cases hf;exact ⟨_,_,Tryz.func56,Vw⟩
 ·cases hf;exact ⟨_,_,Tryz.func57,Vy⟩
 ·cases hf;exact ⟨_,_,Tryz.func58,VA⟩
 ·cases hf;exact ⟨_,_,Tryz.func59,VC⟩
 ·cases hf;exact ⟨_,_,Tryz.func60,VE⟩
 ·cases hf;exact ⟨_,_,Tryz.func61,VF⟩
 ·cases hf;exact ⟨_,_,Tryz.func62,VH⟩
 ·cases hf;exact ⟨_,_,Tryz.func63,VJ⟩
 ·cases hf;exact ⟨_,_,Tryz.func64,VL⟩
 ·cases hf;exact ⟨_,_,Tryz.func65,VN⟩
 ·cases hf;exact ⟨_,_,Tryz.func66,VP⟩
 ·cases hf;exact ⟨_,_,Tryz.func67,VR⟩
 ·cases hf;exact ⟨_,_,Tryz.func68,VT⟩
 ·cases hf;exact ⟨_,_,Tryz.func69,VV⟩
 ·cases hf;exact ⟨_,_,Tryz.func70,VX⟩
 ·cases hf;exact ⟨_,_,Tryz.func71,VZ⟩
 ·cases hf;exact ⟨_,_,Tryz.func72,V1⟩
 ·cases hf;exact ⟨_,_,Tryz.func73,V3⟩
 ·cases hf;exact ⟨_,_,Tryz.func74,V5⟩
 ·cases hf;exact ⟨_,_,Tryz.func75,V7⟩
 ·cases hf;exact ⟨_,_,Tryz.func76,V9⟩
 ·cases hf;exact ⟨_,_,Tryz.func77,Wb⟩
 ·cases hf;exact ⟨_,_,Tryz.func78,Wd⟩
 ·cases hf;exact ⟨_,_,Tryz.func79,Wf⟩
 ·cases hf;exact ⟨_,_,Tryz.func80,Wh⟩
 ·cases hf;exact ⟨_,_,Tryz.func81,Wj⟩
 ·cases hf;exact ⟨_,_,Tryz.func82,Wl⟩
 ·cases hf;exact ⟨_,_,Tryz.func83,Wn⟩
 ·cases hf;exact ⟨_,_,Tryz.func84,Wp⟩
 ·cases hf;exact ⟨_,_,Tryz.func85,Wr⟩
 ·cases hf;exact ⟨_,_,Tryz.func86,Wt⟩
 ·cases hf;exact ⟨_,_,Tryz.func87,Wu⟩
 ·cases hf;exact ⟨_,_,Tryz.func88,Ww⟩
 ·cases hf;exact ⟨_,_,Tryz.func90,Wy⟩
 ·cases hf;exact ⟨_,_,Tryz.func91,WA⟩
 ·cases hf;exact ⟨_,_,Tryz.func92,WC⟩
 ·cases hf;exact ⟨_,_,Tryz.func93,WD⟩
 ·cases hf;exact ⟨_,_,Tryz.func94,WG⟩
 ·cases hf
def Ip :Nat→Option Go.Vm.Fn:=fun
 | 95=> some F95
 | 96=> some F96
 | 97=> some F97
 | 98=> some F98
 | 99=> some F99
 | 100=> some WT
 | 101=> some WU
 | 102=> some Pz
 | 103=> some PB
 | 104=> some WV
 | 105=> some WW
 | 106=> some WX
 | 107=> some WY
 | 108=> some WZ
 | 111=> some W0
 | 112=> some W2
 | 113=> some W3
 | 114=> some W4
 | 115=> some W5
 | 116=> some W6
 | 117=> some W7
 | 118=> some W8
 | 119=> some W9
 | 120=> some Xa
 | 121=> some Xb
 | 122=> some Xc
 | 123=> some Xd
 | 124=> some Xe
 | 125=> some Xf
 | 126=> some Xg
 | 127=> some Xh
 | 128=> some Xi
 | 129=> some Xj
 | 130=> some Xk
 | 131=> some Xl
 | 132=> some Xm
 | 133=> some Xn
 | 134=> some Xo
 | 135=> some Xp
 | 136=> some Xq
 | 137=> some QR
 | 138=> some Xr
 | 139=> some Xs
 | 141=> some Xt
 | 143=> some Xu
 | _=> none
theorem Iq :qW Tryz.prog Ip:=by
 intro f F hf
 unfold Ip at hf
 split at hf
 ·cases hf;exact ⟨_,_,Tryz.func95,WI⟩
 ·cases hf;exact ⟨_,_,Tryz.func96,WK⟩
 ·cases hf;exact ⟨_,_,Tryz.func97,WM⟩
 ·cases hf;exact ⟨_,_,Tryz.func98,WO⟩
 ·cases hf;exact ⟨_,_,Tryz.func99,WR⟩
 ·cases hf;exact ⟨_,_,Tryz.func100,Pu⟩
 ·cases hf;exact ⟨_,_,Tryz.func101,Px⟩
 ·cases hf;exact ⟨_,_,Tryz.func102,HO⟩
 ·cases hf;exact ⟨_,_,Tryz.func103,HP⟩
 ·cases hf;exact ⟨_,_,Tryz.func104,PD⟩
 ·cases hf;exact ⟨_,_,Tryz.func105,PG⟩
 ·cases hf;exact ⟨_,_,Tryz.func106,PI⟩
 ·cases hf;exact ⟨_,_,Tryz.func107,PK⟩
 ·cases hf;exact ⟨_,_,Tryz.func108,PN⟩
 ·cases hf;exact ⟨_,_,Tryz.func111,PQ⟩
 ·cases hf;exact ⟨_,_,Tryz.func112,PS⟩
 ·cases hf;exact ⟨_,_,Tryz.func113,PV⟩
 ·cases hf;exact ⟨_,_,Tryz.func114,PX⟩
 ·cases hf;exact ⟨_,_,Tryz.func115,PZ⟩
 ·cases hf;exact ⟨_,_,Tryz.func116,P2⟩
 ·cases hf;exact ⟨_,_,Tryz.func117,P4⟩
 ·cases hf;exact ⟨_,_,Tryz.func118,P7⟩
 ·cases hf;exact ⟨_,_,Tryz.func119,Qa⟩
 ·cases hf;exact ⟨_,_,Tryz.func120,Qd⟩
 ·cases hf;exact ⟨_,_,Tryz.func121,Qg⟩
 ·cases hf;exact ⟨_,_,Tryz.func122,Qj⟩
 ·cases hf;exact ⟨_,_,Tryz.func123,Qm⟩
 ·cases hf;exact ⟨_,_,Tryz.func124,Qo⟩
 ·cases hf;exact ⟨_,_,Tryz.func125,Qq⟩
 ·cases hf;exact ⟨_,_,Tryz.func126,Qs⟩
 ·cases hf;exact ⟨_,_,Tryz.func127,Qu⟩
 ·cases hf;exact ⟨_,_,Tryz.func128,Qw⟩
 ·cases hf;exact ⟨_,_,Tryz.func129,Qy⟩
 ·cases hf;exact ⟨_,_,Tryz.func130,QA⟩
 ·cases hf;exact ⟨_,_,Tryz.func131,QD⟩
 ·cases hf;exact ⟨_,_,Tryz.func132,QF⟩
 ·cases hf;exact ⟨_,_,Tryz.func133,QI⟩
 ·cases hf;exact ⟨_,_,Tryz.func134,QK⟩
 ·cases hf;exact ⟨_,_,Tryz.func135,QN⟩
 ·cases hf;exact ⟨_,_,Tryz.func136,QP⟩
 ·cases hf;exact ⟨_,_,Tryz.func137,Ig⟩
 ·cases hf;exact ⟨_,_,Tryz.func138,QT⟩
 ·cases hf;exact ⟨_,_,Tryz.func139,QV⟩
 ·cases hf;exact ⟨_,_,Tryz.func141,QX⟩
 ·cases hf;exact ⟨_,_,Tryz.func143,QY⟩
 ·cases hf
def Ir :Nat→Option Go.Vm.Fn:=fun
 | 144=> some Xv
 | 145=> some Xw
 | 146=> some Xx
 | 147=> some Xy
 | 148=> some Xz
 | 149=> some XA
 | 150=> some XB
 | 151=> some XC
 | _=> none
theorem Is :qW Tryz.prog Ir:=by
 intro f F hf
 unfold Ir at hf
 split at hf
 ·cases hf;exact ⟨_,_,Tryz.func144,Q1⟩
 ·cases hf;exact ⟨_,_,Tryz.func145,Q3⟩
 ·cases hf;exact ⟨_,_,Tryz.func146,Q4⟩
 ·cases hf;exact ⟨_,_,Tryz.func147,Q5⟩
 ·cases hf;exact ⟨_,_,Tryz.func148,Q7⟩
 ·cases hf;exact ⟨_,_,Tryz.func149,Q9⟩
 ·cases hf;exact ⟨_,_,Tryz.func150,Rb⟩
 ·cases hf;exact ⟨_,_,Tryz.func151,Rf⟩
 ·cases hf
def fns (f:Nat):Option Go.Vm.Fn:=bif Nat.blt f 48 then Ik f else bif Nat.blt f 95 then Im f else bif Nat.blt f 144 then Ip f else Ir f
theorem Ps :qW Tryz.prog fns:=by
 intro f F hf
 unfold fns at hf
 cases h0:Nat.blt f 48 with
 | true=> rw[h0] at hf;exact Il f F hf
 | false=>
 rw[h0] at hf;simp only[cond_false] at hf
 cases h1:Nat.blt f 95 with
 | true=> rw[h1] at hf;exact Io f F hf
 | false=>
 rw[h1] at hf;simp only[cond_false] at hf
 cases h2:Nat.blt f 144 with
 | true=> rw[h2] at hf;exact Iq f F hf
 | false=>
 rw[h2] at hf;simp only[cond_false] at hf
 exact Is f F hf
def qf :Nat→Option Go.Vm.Fn:=fun
 | 55=> some F55
 | 102=> some Pz
 | 103=> some PB
 | 137=> some QR
 | _=> none
theorem L9 :qW Tryz.prog qf:=by
 intro f F hf
 unfold qf at hf
 split at hf
 ·cases hf;exact ⟨_,_,Tryz.func55,Vu⟩
 ·cases hf;exact ⟨_,_,Tryz.func102,HO⟩
 ·cases hf;exact ⟨_,_,Tryz.func103,HP⟩
 ·cases hf;exact ⟨_,_,Tryz.func137,Ig⟩
 ·cases hf
set_option maxRecDepth 100000
structure ae where
 iD:(List UInt8)
 gen:Int
 jm:(List UInt8)
 aL:(List UInt8)
 bT:Int
 used:Int
 owner:(List UInt8)
 gone:Bool
 qX:Bool
 deriving DecidableEq,Inhabited
def ae.enc (a:ae):V:= .st 37 [.arr 28 (a.iD.map aa),.s (.int .u64 a.gen),.arr 22 (a.jm.map aa),.aq false none (a.aL.map aa),.s (.int .i64 a.bT),.s (.int .i64 a.used),.arr 22 (a.owner.map aa),.s (.bool a.gone),.s (.bool a.qX)]
structure ae.wf (a:ae):Prop where
 iD:a.iD.length=4
 gen:0≤a.gen∧a.gen≤18446744073709551615
 jm:a.jm.length=16
 aL:a.aL.length≤140737488351232
 bT: -9223372036854775808≤a.bT∧a.bT≤9223372036854775807
 used: -9223372036854775808≤a.used∧a.used≤9223372036854775807
 owner:a.owner.length=16
 gone:True
 qX:True
theorem ae.of (n:Nat) {v:V} (h:bW Tryz.prog (n+3) 38 v):∃a:ae,v=a.enc∧a.wf:=by
 obtain ⟨vs,rfl,hl,hf⟩:=of_struct h Tryz.underlying38
 match vs,hl with
 | [x0,x1,x2,x3,x4,x5,x6,x7,x8],_=>
   obtain ⟨a0,rfl,w0⟩:=jb (n:=n+0) (hf 0 _ x0 rfl rfl) Tryz.underlying29 Tryz.underlying5
   obtain ⟨a1,rfl,w1⟩:=mE (n:=n+1) (hf 1 _ x1 rfl rfl) Tryz.underlying32
   obtain ⟨a2,rfl,w2⟩:=jb (n:=n+0) (hf 2 _ x2 rfl rfl) Tryz.underlying23 Tryz.underlying5
   obtain ⟨a3,rfl,w3⟩:=ph (n:=n+0) (hf 3 _ x3 rfl rfl) Tryz.underlying31 Tryz.underlying5 (by kernel_rfl)
   obtain ⟨a4,rfl,w4⟩:=fk (n:=n+1) (hf 4 _ x4 rfl rfl) Tryz.underlying3
   obtain ⟨a5,rfl,w5⟩:=fk (n:=n+1) (hf 5 _ x5 rfl rfl) Tryz.underlying3
   obtain ⟨a6,rfl,w6⟩:=jb (n:=n+0) (hf 6 _ x6 rfl rfl) Tryz.underlying23 Tryz.underlying5
   obtain ⟨a7,rfl,w7⟩:=(of_bool (n:=n+1) (hf 7 _ x7 rfl rfl) Tryz.underlying4).imp fun _ h=> And.intro h trivial
   obtain ⟨a8,rfl,w8⟩:=(of_bool (n:=n+1) (hf 8 _ x8 rfl rfl) Tryz.underlying4).imp fun _ h=> And.intro h trivial
   exact ⟨⟨a0,a1,a2,a3,a4,a5,a6,a7,a8⟩,rfl,⟨w0,w1,w2,w3,w4,w5,w6,w7,w8⟩⟩
structure Request where
 op:Int
 iD:(List UInt8)
 jm:(List UInt8)
 aL:(List UInt8)
 bT:Int
 owner:(List UInt8)
 jJ:(List UInt8)
 aM:Int
 num:Int
 deriving DecidableEq,Inhabited
def Request.enc (a:Request):V:= .st 33 [.s (.int .i64 a.op),.arr 28 (a.iD.map aa),.arr 22 (a.jm.map aa),.aq false none (a.aL.map aa),.s (.int .i64 a.bT),.arr 22 (a.owner.map aa),.arr 22 (a.jJ.map aa),.s (.int .i64 a.aM),.s (.int .u64 a.num)]
structure Request.wf (a:Request):Prop where
 op: -9223372036854775808≤a.op∧a.op≤9223372036854775807
 iD:a.iD.length=4
 jm:a.jm.length=16
 aL:a.aL.length≤140737488351232
 bT: -9223372036854775808≤a.bT∧a.bT≤9223372036854775807
 owner:a.owner.length=16
 jJ:a.jJ.length=16
 aM: -9223372036854775808≤a.aM∧a.aM≤9223372036854775807
 num:0≤a.num∧a.num≤18446744073709551615
theorem Request.of (n:Nat) {v:V} (h:bW Tryz.prog (n+3) 34 v):∃a:Request,v=a.enc∧a.wf:=by
 obtain ⟨vs,rfl,hl,hf⟩:=of_struct h Tryz.underlying34
 match vs,hl with
 | [x0,x1,x2,x3,x4,x5,x6,x7,x8],_=>
   obtain ⟨a0,rfl,w0⟩:=fk (n:=n+1) (hf 0 _ x0 rfl rfl) Tryz.underlying3
   obtain ⟨a1,rfl,w1⟩:=jb (n:=n+0) (hf 1 _ x1 rfl rfl) Tryz.underlying29 Tryz.underlying5
   obtain ⟨a2,rfl,w2⟩:=jb (n:=n+0) (hf 2 _ x2 rfl rfl) Tryz.underlying23 Tryz.underlying5
   obtain ⟨a3,rfl,w3⟩:=ph (n:=n+0) (hf 3 _ x3 rfl rfl) Tryz.underlying31 Tryz.underlying5 (by kernel_rfl)
   obtain ⟨a4,rfl,w4⟩:=fk (n:=n+1) (hf 4 _ x4 rfl rfl) Tryz.underlying3
   obtain ⟨a5,rfl,w5⟩:=jb (n:=n+0) (hf 5 _ x5 rfl rfl) Tryz.underlying23 Tryz.underlying5
   obtain ⟨a6,rfl,w6⟩:=jb (n:=n+0) (hf 6 _ x6 rfl rfl) Tryz.underlying23 Tryz.underlying5
   obtain ⟨a7,rfl,w7⟩:=fk (n:=n+1) (hf 7 _ x7 rfl rfl) Tryz.underlying3
   obtain ⟨a8,rfl,w8⟩:=mE (n:=n+1) (hf 8 _ x8 rfl rfl) Tryz.underlying32
   exact ⟨⟨a0,a1,a2,a3,a4,a5,a6,a7,a8⟩,rfl,⟨w0,w1,w2,w3,w4,w5,w6,w7,w8⟩⟩
structure av where
 wY:Int
 iD:(List UInt8)
 gen:Int
 left:Int
 aL:(List UInt8)
 aM:Int
 num:Int
 deriving DecidableEq,Inhabited
def av.enc (a:av):V:= .st 45 [.s (.int .i64 a.wY),.arr 28 (a.iD.map aa),.s (.int .u64 a.gen),.s (.int .i64 a.left),.aq false none (a.aL.map aa),.s (.int .i64 a.aM),.s (.int .u64 a.num)]
structure av.wf (a:av):Prop where
 wY: -9223372036854775808≤a.wY∧a.wY≤9223372036854775807
 iD:a.iD.length=4
 gen:0≤a.gen∧a.gen≤18446744073709551615
 left: -9223372036854775808≤a.left∧a.left≤9223372036854775807
 aL:a.aL.length≤140737488351232
 aM: -9223372036854775808≤a.aM∧a.aM≤9223372036854775807
 num:0≤a.num∧a.num≤18446744073709551615
theorem av.of (n:Nat) {v:V} (h:bW Tryz.prog (n+3) 46 v):∃a:av,v=a.enc∧a.wf:=by
 obtain ⟨vs,rfl,hl,hf⟩:=of_struct h Tryz.underlying46
 match vs,hl with
 | [x0,x1,x2,x3,x4,x5,x6],_=>
   obtain ⟨a0,rfl,w0⟩:=fk (n:=n+1) (hf 0 _ x0 rfl rfl) Tryz.underlying25
   obtain ⟨a1,rfl,w1⟩:=jb (n:=n+0) (hf 1 _ x1 rfl rfl) Tryz.underlying29 Tryz.underlying5
   obtain ⟨a2,rfl,w2⟩:=mE (n:=n+1) (hf 2 _ x2 rfl rfl) Tryz.underlying32
   obtain ⟨a3,rfl,w3⟩:=fk (n:=n+1) (hf 3 _ x3 rfl rfl) Tryz.underlying3
   obtain ⟨a4,rfl,w4⟩:=ph (n:=n+0) (hf 4 _ x4 rfl rfl) Tryz.underlying31 Tryz.underlying5 (by kernel_rfl)
   obtain ⟨a5,rfl,w5⟩:=fk (n:=n+1) (hf 5 _ x5 rfl rfl) Tryz.underlying3
   obtain ⟨a6,rfl,w6⟩:=mE (n:=n+1) (hf 6 _ x6 rfl rfl) Tryz.underlying32
   exact ⟨⟨a0,a1,a2,a3,a4,a5,a6⟩,rfl,⟨w0,w1,w2,w3,w4,w5,w6⟩⟩
structure aB where
 kind:Int
 aC:Int
 dS:Int
 aH:Int
 ax:ae
 aj:(List ae)
 deriving DecidableEq,Inhabited
def aB.enc (a:aB):V:= .st 40 [.s (.int .i64 a.kind),.s (.int .i64 a.aC),.s (.int .i64 a.dS),.s (.int .u64 a.aH),ae.enc a.ax,.aq false (some 37) (a.aj.map fun z=> ae.enc z)]
structure aB.wf (a:aB):Prop where
 kind: -9223372036854775808≤a.kind∧a.kind≤9223372036854775807
 aC: -9223372036854775808≤a.aC∧a.aC≤9223372036854775807
 dS: -9223372036854775808≤a.dS∧a.dS≤9223372036854775807
 aH:0≤a.aH∧a.aH≤18446744073709551615
 ax:a.ax.wf
 aj:a.aj.length≤140737488351232∧∀z∈a.aj,z.wf
theorem aB.of (n:Nat) {v:V} (h:bW Tryz.prog (n+5) 41 v):∃a:aB,v=a.enc∧a.wf:=by
 obtain ⟨vs,rfl,hl,hf⟩:=of_struct h Tryz.underlying41
 match vs,hl with
 | [x0,x1,x2,x3,x4,x5],_=>
   obtain ⟨a0,rfl,w0⟩:=fk (n:=n+3) (hf 0 _ x0 rfl rfl) Tryz.underlying3
   obtain ⟨a1,rfl,w1⟩:=fk (n:=n+3) (hf 1 _ x1 rfl rfl) Tryz.underlying3
   obtain ⟨a2,rfl,w2⟩:=fk (n:=n+3) (hf 2 _ x2 rfl rfl) Tryz.underlying3
   obtain ⟨a3,rfl,w3⟩:=mE (n:=n+3) (hf 3 _ x3 rfl rfl) Tryz.underlying32
   obtain ⟨a4,rfl,w4⟩:=ae.of _ (hf 4 _ x4 rfl rfl)
   obtain ⟨a5,rfl,w5⟩:=(Exists.elim (of_slice (f:=fun z=> ae.enc z) (p:=fun z=> z.wf) (n:=n+3) (hf 5 _ x5 rfl rfl) Tryz.underlying39 (by kernel_rfl:aE Tryz.prog 38=(some 37)) (fun x hx=> ae.of _ hx)) fun a q=>(⟨a,q.1,⟨acE (adE _ (show 1≤Tryz.prog.bytesOf 38 by rw[show Tryz.prog.bytesOf 38=96 from by kernel_rfl];omega)) q.2.1,q.2.2⟩⟩:∃a:List ae,_=V.aq false (some 37) (a.map fun z=> ae.enc z)∧a.length≤140737488351232∧∀z∈a,z.wf))
   exact ⟨⟨a0,a1,a2,a3,a4,a5⟩,rfl,⟨w0,w1,w2,w3,w4,w5⟩⟩
structure ag where
 bZ:Int
 count:Int
 base:Int
 head:(List UInt8)
 aN:Int
 deriving DecidableEq,Inhabited
def ag.enc (a:ag):V:= .st 63 [.s (.int .u64 a.bZ),.s (.int .u64 a.count),.s (.int .u64 a.base),.arr 22 (a.head.map aa),.s (.int .i64 a.aN)]
structure ag.wf (a:ag):Prop where
 bZ:0≤a.bZ∧a.bZ≤18446744073709551615
 count:0≤a.count∧a.count≤18446744073709551615
 base:0≤a.base∧a.base≤18446744073709551615
 head:a.head.length=16
 aN: -9223372036854775808≤a.aN∧a.aN≤9223372036854775807
theorem ag.of (n:Nat) {v:V} (h:bW Tryz.prog (n+3) 64 v):∃a:ag,v=a.enc∧a.wf:=by
 obtain ⟨vs,rfl,hl,hf⟩:=of_struct h Tryz.underlying64
 match vs,hl with
 | [x0,x1,x2,x3,x4],_=>
   obtain ⟨a0,rfl,w0⟩:=mE (n:=n+1) (hf 0 _ x0 rfl rfl) Tryz.underlying32
   obtain ⟨a1,rfl,w1⟩:=mE (n:=n+1) (hf 1 _ x1 rfl rfl) Tryz.underlying32
   obtain ⟨a2,rfl,w2⟩:=mE (n:=n+1) (hf 2 _ x2 rfl rfl) Tryz.underlying32
   obtain ⟨a3,rfl,w3⟩:=jb (n:=n+0) (hf 3 _ x3 rfl rfl) Tryz.underlying23 Tryz.underlying5
   obtain ⟨a4,rfl,w4⟩:=fk (n:=n+1) (hf 4 _ x4 rfl rfl) Tryz.underlying3
   exact ⟨⟨a0,a1,a2,a3,a4⟩,rfl,⟨w0,w1,w2,w3,w4⟩⟩
structure j3 where
 wZ:Int
 request:Request
 It:av
 deriving DecidableEq,Inhabited
def j3.enc (a:j3):V:= .st 47 [.s (.int .i64 a.wZ),Request.enc a.request,av.enc a.It]
structure j3.wf (a:j3):Prop where
 wZ: -9223372036854775808≤a.wZ∧a.wZ≤9223372036854775807
 request:a.request.wf
 It:a.It.wf
theorem j3.of (n:Nat) {v:V} (h:bW Tryz.prog (n+4) 48 v):∃a:j3,v=a.enc∧a.wf:=by
 obtain ⟨vs,rfl,hl,hf⟩:=of_struct h Tryz.underlying48
 match vs,hl with
 | [x0,x1,x2],_=>
   obtain ⟨a0,rfl,w0⟩:=fk (n:=n+2) (hf 0 _ x0 rfl rfl) Tryz.underlying3
   obtain ⟨a1,rfl,w1⟩:=Request.of _ (hf 1 _ x1 rfl rfl)
   obtain ⟨a2,rfl,w2⟩:=av.of _ (hf 2 _ x2 rfl rfl)
   exact ⟨⟨a0,a1,a2⟩,rfl,⟨w0,w1,w2⟩⟩
structure Answer where
 bytes:(List UInt8)
 aM:Int
 XD:Bool
 changed:Bool
 Rg:j3
 deriving DecidableEq,Inhabited
def Answer.enc (a:Answer):V:= .st 49 [.aq false none (a.bytes.map aa),.s (.int .i64 a.aM),.s (.bool a.XD),.s (.bool a.changed),j3.enc a.Rg]
structure Answer.wf (a:Answer):Prop where
 bytes:a.bytes.length≤140737488351232
 aM: -9223372036854775808≤a.aM∧a.aM≤9223372036854775807
 XD:True
 changed:True
 Rg:a.Rg.wf
theorem Answer.of (n:Nat) {v:V} (h:bW Tryz.prog (n+5) 50 v):∃a:Answer,v=a.enc∧a.wf:=by
 obtain ⟨vs,rfl,hl,hf⟩:=of_struct h Tryz.underlying50
 match vs,hl with
 | [x0,x1,x2,x3,x4],_=>
   obtain ⟨a0,rfl,w0⟩:=ph (n:=n+2) (hf 0 _ x0 rfl rfl) Tryz.underlying31 Tryz.underlying5 (by kernel_rfl)
   obtain ⟨a1,rfl,w1⟩:=fk (n:=n+3) (hf 1 _ x1 rfl rfl) Tryz.underlying3
   obtain ⟨a2,rfl,w2⟩:=(of_bool (n:=n+3) (hf 2 _ x2 rfl rfl) Tryz.underlying4).imp fun _ h=> And.intro h trivial
   obtain ⟨a3,rfl,w3⟩:=(of_bool (n:=n+3) (hf 3 _ x3 rfl rfl) Tryz.underlying4).imp fun _ h=> And.intro h trivial
   obtain ⟨a4,rfl,w4⟩:=j3.of _ (hf 4 _ x4 rfl rfl)
   exact ⟨⟨a0,a1,a2,a3,a4⟩,rfl,⟨w0,w1,w2,w3,w4⟩⟩
end Go.Proofs.YtggjbepemdhohaaGreat
namespace Go.Cl
abbrev Bs :=List UInt8
def within (n lo hi:Int):Int:=if lo≤n∧n≤hi then n else lo+n %(hi - lo+1)
theorem Iu {n m:Int} (hm:0 < m):n % m=if n.tmod m < 0 then n.tmod m+m else n.tmod m:=by
 rw[Int.emod_eq_tmod]
 by_cases h:0≤n
 ·have h1:(0≤n∨m ∣ n):= .inl h
  rw[if_pos h1]
  have:=Int.tmod_nonneg m h
  rw[if_neg (by omega)];omega
 ·by_cases hd:m ∣ n
  ·rw[if_pos (.inr hd),Int.tmod_eq_zero_of_dvd hd];simp
  ·rw[if_neg (by simp[h,hd])]
   have h2:n.tmod m≠0:=fun e=> hd (Int.dvd_of_tmod_eq_zero e)
   have h3:n.tmod m≤0:=by
     have:=Int.tmod_nonneg m (show 0≤ -n by omega)
     rw[Int.neg_tmod] at this;omega
   rw[if_pos (by omega)]
   have:(m.natAbs:Int)=m:=by omega
   rw[this]
end Go.Cl
namespace Go.Cl
open Go Go.Vm
def pj (k x:Nat):Nat:=x * 2 ^ k % 4294967296+x / 2 ^(32 - k)
structure W where
 a:Nat
 b:Nat
 c:Nat
 d:Nat
def xr (a b:Nat):Nat:=(a ^^^ b) % 4294967296
def ad (a b:Nat):Nat:=(a+b) % 4294967296
def half (k1 k2:Nat) (x:W):W:=
 let a:=ad x.a x.b
 let d:=pj k1 (xr x.d a)
 let c:=ad x.c d
 let b:=pj k2 (xr x.b c)
 ⟨a,b,c,d⟩
def iy (x:W):W:=half 8 7 (half 16 12 x)
def W.vs (x:W):List V:=[.s (.int .u32 x.a),.s (.int .u32 x.b),.s (.int .u32 x.c),.s (.int .u32 x.d)]
def W.ok (x:W):Prop:=x.a < 4294967296∧x.b < 4294967296∧x.c < 4294967296∧x.d < 4294967296
theorem Ma (a b:Nat):IntKind.u32.wrap ((a:Int)+(b:Int))=((ad a b:Nat):Int):=by
 have:IntKind.u32.wrap ((a:Int)+(b:Int))=((a:Int)+b) % 4294967296:=by
   simp only[IntKind.wrap,IntKind.bits,IntKind.signed];rfl
 rw[this,ad];omega
theorem jh (n a:Nat):BitVec.ofInt n (a:Int)=BitVec.ofNat n a:=by
 apply afa
 rw[BitVec.toNat_ofInt,adB];omega
theorem sM {x:Nat} (h:x < 4294967296):IntKind.u32.wrap (x:Int)=(x:Int):=wrap_u32 (by omega) (by omega)
theorem yB (a b:Nat):Mb .u32 (a:Int) (b:Int)=((xr a b:Nat):Int):=by
 have h:Mb .u32 (a:Int) (b:Int)=IntKind.u32.wrap (((BitVec.ofInt 32 (a:Int)^^^ BitVec.ofInt 32 (b:Int)).toNat:Nat):Int):=rfl
 rw[h,jh,jh,BitVec.toNat_xor,adB,adB,←Nat.xor_mod_two_pow]
 have cJ:(a ^^^ b) % 2 ^ 32 < 4294967296:=adZ _ (by decide)
 rw[sM cJ]
 rfl
theorem Rh {a b:Nat} (ha:a < 4294967296) (hb:b < 4294967296):orI .u32 (a:Int) (b:Int)=((a ||| b:Nat):Int):=by
 have h:orI .u32 (a:Int) (b:Int)=IntKind.u32.wrap (((BitVec.ofInt 32 (a:Int) ||| BitVec.ofInt 32 (b:Int)).toNat:Nat):Int):=rfl
 rw[h,jh,jh,BitVec.toNat_or,adB,adB,adW (show a < 2 ^ 32 from ha),adW (show b < 2 ^ 32 from hb)]
 exact sM (Nat.or_lt_two_pow (n:=32) ha hb)
theorem Iv {a k:Nat} (hk:k≤32):xa .u32 (a:Int) (k:Int)=((a * 2 ^ k % 4294967296:Nat):Int):=by
 have h:xa .u32 (a:Int) (k:Int)=IntKind.u32.wrap ((a:Int)* 2 ^(min ((k:Int).toNat) 32)):=rfl
 rw[h,acu,acy hk]
 have h2:((a:Int)* 2 ^ k)=((a * 2 ^ k:Nat):Int):=by simp
 rw[h2]
 have:IntKind.u32.wrap ((a * 2 ^ k:Nat):Int)=((a * 2 ^ k:Nat):Int) % 4294967296:=by
   simp only[IntKind.wrap,IntKind.bits,IntKind.signed];rfl
 rw[this];omega
theorem Iw {a k:Nat} (hk:k≤32):sN .u32 (a:Int) (k:Int)=((a / 2 ^ k:Nat):Int):=by
 have h:sN .u32 (a:Int) (k:Int)=(a:Int).fdiv (2 ^(min ((k:Int).toNat) 32)):=rfl
 rw[h,acu,acy hk,aef _ (by exact Int.le_of_lt (Int.pow_pos (by decide)))]
 simp
theorem AX {x y k:Nat} (h:y < 2 ^ k):x * 2 ^ k ||| y=x * 2 ^ k+y:=by
 have:=Nat.shiftLeft_add_eq_or_of_lt h x
 rw[Nat.shiftLeft_eq] at this
 exact this.symm
theorem AY {x k:Nat} (hx:x < 4294967296) (hk:k≤32):(x * 2 ^ k % 4294967296) ||| (x / 2 ^(32 - k))=pj k x:=by
 have hp:2 ^(32 - k)* 2 ^ k=4294967296:=by rw[←Nat.pow_add];rw[show 32 - k+k=32 by omega]
 have h1:x * 2 ^ k % 4294967296=(x % 2 ^(32 - k))* 2 ^ k:=by
   rw[←hp,Nat.mul_mod_mul_right]
 have h2:x / 2 ^(32 - k)< 2 ^ k:=by
   rw[afb (aeF _),adI,hp];exact hx
 rw[pj,h1,AX h2]
theorem AZ {x k:Nat} (hx:x < 4294967296) (hk:k≤32):pj k x < 4294967296:=by
 rw[←AY hx hk]
 have h2:x / 2 ^(32 - k)< 4294967296:=ad3 (adS _ _) hx
 exact Nat.or_lt_two_pow (n:=32) (adZ _ (by decide)) h2
theorem Ix {x:Nat} (hx:x < 4294967296):pj 0 x=x:=by
 simp only[pj,afm,Nat.mul_one];omega
theorem Eg {x j q t r:Nat} (hj:j≤31) (hx:x=q * 2 ^(32 - j)+t * 2 ^(31 - j)+r) (hq:q < 2 ^ j) (ht:t < 2) (hr:r < 2 ^(31 - j)):pj j x=t * 2147483648+(r * 2 ^ j+q)∧pj (j+1) x=(r * 2 ^ j+q)* 2+t∧r * 2 ^ j+q < 2147483648:=by
 obtain ⟨B,hB⟩:∃B,2 ^(31 - j)=B:=⟨_,rfl⟩
 obtain ⟨J,hJ⟩:∃J,2 ^ j=J:=⟨_,rfl⟩
 have hBJ:B * J=2147483648:=by rw[←hB,←hJ,←Nat.pow_add];rw[show 31 - j+j=31 by omega]
 have hA:2 ^(32 - j)=2 * B:=by rw[←hB,show 32 - j=(31 - j)+1 by omega,aex];omega
 have hs:32 - (j+1)=31 - j:=by omega
 have hJ2:2 ^(j+1)=J * 2:=by rw[aex,hJ]
 have hB0:0 < B:=by rw[←hB];exact aeF _
 rw[hB] at hx hr
 rw[hJ] at hq
 rw[hA] at hx
 have hrJ:r * J+J≤2147483648:=by
   rw[←hBJ,←Nat.succ_mul];exact ace _ hr
 have cJ:r * J+q < 2147483648:=by omega
 have e1:x * J=q * 4294967296+t * 2147483648+r * J:=by
   rw[hx,ac9,ac9,aeU q,aeU 2 B J,aeU t B J,hBJ]
 have e2:x /(2 * B)=q:=by
   rw[hx,adO,adI q,Nat.mul_add_div (by omega)]
   have:(t * B+r)/(2 * B)=0:=aeA (by
     have:t * B≤1 * B:=ace _ (by omega)
     omega)
   omega
 have e3:x / B=q * 2+t:=by
   have:x=B *(q * 2+t)+r:=by
     rw[hx,Nat.mul_add,adI B t,←Nat.mul_assoc,←Nat.mul_assoc,adI B q,aeU q B 2,adI B 2,←Nat.mul_assoc]
   rw[this,Nat.mul_add_div hB0,aeA hr,ad7]
 refine ⟨?_,?_,by rw[hJ];exact cJ⟩
 ·rw[pj,hJ,hA,e1,e2];omega
 ·rw[pj,hJ2,hs,hB,e3,hJ,←Nat.mul_assoc,e1];omega
theorem Iy {x j:Nat} (hx:x < 4294967296) (hj:j≤31):pj 1 (pj j x)=pj (j+1) x:=by
 obtain ⟨B,hB⟩:∃B,2 ^(31 - j)=B:=⟨_,rfl⟩
 have hB0:0 < B:=by rw[←hB];exact aeF _
 have hA:2 ^(32 - j)=2 * B:=by rw[←hB,show 32 - j=(31 - j)+1 by omega,aex];omega
 have hAJ:2 ^(32 - j)* 2 ^ j=4294967296:=by rw[←Nat.pow_add];rw[show 32 - j+j=32 by omega]
 have h1:=Nat.div_add_mod x B
 have h2:=Nat.div_add_mod (x / B) 2
 obtain ⟨g1,g2,g3⟩:=Eg (x:=x) (j:=j) (q:=x / B / 2) (t:=x / B % 2) (r:=x % B) hj (by
     rw[hA,hB]
     conv=> lhs;rw[←h1,←h2]
     rw[Nat.mul_add,adI B (x / B % 2),←Nat.mul_assoc,adI B 2,adI (2 * B)])
   (by
     rw[ad1,adI B 2,←hA,afb (aeF _),adI,hAJ];exact hx)
   (adZ _ (by omega)) (by rw[hB];exact adZ _ hB0)
 rw[g1,g2]
 have ht:x / B % 2 < 2:=adZ _ (by omega)
 generalize x % B * 2 ^ j+x / B / 2=y at g3
 generalize x / B % 2=t at ht
 simp only[pj,Nat.reducePow,Nat.reduceSub];omega
theorem me (a b:Nat):xr a b < 4294967296:=adZ _ (by decide)
theorem OU (a b:Nat):ad a b < 4294967296:=adZ _ (by decide)
theorem Mc (k1 k2:Nat) (h1:k1≤32) (h2:k2≤32) (x:W):(half k1 k2 x).ok:=⟨OU _ _,AZ (me _ _) h2,OU _ _,AZ (me _ _) h1⟩
theorem pk (x:W):(iy x).ok:=Mc _ _ (by omega) (by omega) _
def nS (l:Bs):Nat:=(l.getD 0 0).toNat+256 *(l.getD 1 0).toNat+65536 *(l.getD 2 0).toNat+16777216 *(l.getD 3 0).toNat
theorem Iz (l:Bs):nS l < 4294967296:=by
 have h0:=(l.getD 0 0).toNat_lt
 have h1:=(l.getD 1 0).toNat_lt
 have h2:=(l.getD 2 0).toNat_lt
 have h3:=(l.getD 3 0).toNat_lt
 unfold nS;omega
theorem yC (l:Bs) (j:Nat) (hj:j < 4):nS l / 256 ^(j+1)* 256+(l.getD j 0).toNat=nS l / 256 ^ j:=by
 have h0:=(l.getD 0 0).toNat_lt
 have h1:=(l.getD 1 0).toNat_lt
 have h2:=(l.getD 2 0).toNat_lt
 have h3:=(l.getD 3 0).toNat_lt
 unfold nS
 have:j=0∨j=1∨j=2∨j=3:=by omega
 rcases this with rfl | rfl | rfl | rfl <;>(simp only[Nat.reducePow,Nat.reduceAdd,afh];omega)
theorem CN (l:Bs):nS l / 256 ^ 4=0:=aeA (Iz l)
theorem vw (l:Bs) (j:Nat):nS l / 256 ^(j+1)< 16777216:=by
 have h:=Iz l
 rw[aex,adI,←Nat.div_div_eq_div_mul]
 exact ad3 (adS _ _) (by omega)
def fR (n:Nat):Nat:=(8 - (n+1) % 8) % 8
def rR (n:Nat):Nat→Bs
 | 0=> []
 | i+1=> rR n i++[UInt8.ofNat (n / 2 ^(8 * i) % 256)]
def fo (l:Bs):Bs:=l++[128]++List.replicate (fR l.length) 0++rR l.length 8
def w0 :W:=⟨1668047222,1768383858,1801807216,1935763045⟩
def Ri (x:W) (t:Bs):W:=iy (iy (iy ⟨xr x.a (nS t),x.b,x.c,xr x.d (nS (t.drop 4))⟩))
def lg (t:Bs):Nat→W
 | 0=> w0
 | i+1=> Ri (lg t i) (t.drop (8 * i))
def dD (x:W):Nat→W
 | 0=> x
 | i+1=> iy (dD x i)
def W.at (x:W) (i:Nat):Nat:=if i=0 then x.a else if i=1 then x.b else if i=2 then x.c else x.d
def fU (x:W):Nat→Bs
 | 0=> []
 | i+1=> fU x i++[UInt8.ofNat (x.at (i / 4)/ 2 ^(8 *(i % 4)) % 256)]
def cP (l:Bs):Bs:=fU (dD (lg (fo l) ((fo l).length / 8)) 8) 16
theorem xb (t:Bs):∀i,(lg t i).ok
 | 0=>(⟨by decide,by decide,by decide,by decide⟩:w0.ok)
 | i+1=> pk _
theorem sO {x:W} (hx:x.ok):∀i,(dD x i).ok
 | 0=> hx
 | i+1=> pk _
theorem po (n:Nat):∀i,(rR n i).length=i
 | 0=> rfl
 | i+1=> by simp[rR,po n i]
theorem iz (x:W):∀i,(fU x i).length=i
 | 0=> rfl
 | i+1=> by simp[fU,iz x i]
theorem oJ (l:Bs):(fo l).length=l.length+1+fR l.length+8:=by simp[fo,po];omega
theorem sP (l:Bs):(fo l).length % 8=0:=by rw[oJ,fR];omega
theorem bG (l:Bs):(cP l).length=16:=iz _ _
end Go.Cl
namespace Go.Proofs.YtggjbepemdhohaaGreat
open Go Go.Vm Go.Proofs Go.Cl
def Rd (h:Hp) (x:V) (l:Bs):Prop:=(∀h',Fw [] h h'→elems h' x=some (none,l.map aa))∧eN x=some l.length
theorem sQ {h h':Hp} (f:Fw [] h h') {id n:Nat} {r:Option Nat×List V} (hr:rowOf h id n=some r):rowOf h' id n=some r:=by
 unfold rowOf at hr ⊢
 split at hr
 ·rename_i hg
  rw[f.cw _ _ hg (by simp)];exact hr
 ·cases hr
theorem A0 {h h':Hp} (f:Fw [] h h') {id n:Nat} {p:List Nat} {r:List V} (hr:Vm.rowAt h id p n=some r):Vm.rowAt h' id p n=some r:=by
 unfold Vm.rowAt at hr ⊢
 split at hr
 ·obtain ⟨q,h1,h2⟩:=abU.1 hr
  rw[sQ f h1];exact abU.2 ⟨q,rfl,h2⟩
 ·split at hr
  ·rename_i t es hn
   have:node h' id p n=some (.arr t es):=by
     unfold node at hn ⊢
     cases hq:rowOf h id n with
     | none=> rw[hq] at hn;simp at hn
     | some q=> rw[sQ f hq];rw[hq] at hn;exact hn
   rw[this];exact hr
  ·cases hr
theorem Rd.mk' {h:Hp} {x:V} {l:Bs} (he:elems h x=some (none,l.map aa)) (hl:eN x=some l.length):Rd h x l:=by
 refine ⟨fun h' f=> ?_,hl⟩
 cases x with
 | aq fl g es=> exact he
 | ref id path g off len az=>
   simp only[elems] at he ⊢
   obtain ⟨q,h1,h2⟩:=abU.1 he
   rw[A0 f h1];exact abU.2 ⟨q,rfl,h2⟩
 | _=> simp[elems] at he
theorem Rd.fw {h h':Hp} {x:V} {l:Bs} (hr:Rd h x l) (f:Fw [] h h'):Rd h' x l:=⟨fun h2 f2=> hr.1 h2 (f.trans f2),hr.2⟩
theorem BR.rd {h:Hp} {x:V} {l:Bs} (hb:BR h x l):Rd h x l:=Rd.mk' hb.elems hb.len
open Classical in
noncomputable def yD (vs:List V) (h:Hp):Option (V×Hp):=
 match vs with
 | [x]=> match elems h x with
   | some (none,es)=> match bytesOf es with
     | some l=> if es=l.map aa∧eN x=some l.length∧l.length≤1000000 then some (.arr 22 ((cP l).map aa),h) else none
     | none=> none
   | _=> none
 | _=> none
theorem Eh {vs:List V} {h:Hp} {v:V} {h':Hp} (hr:yD vs h=some (v,h')):h'=h:=by
 unfold yD at hr
 split at hr
 ·split at hr
  ·split at hr
   ·split at hr
    ·cases hr;rfl
    ·cases hr
   ·cases hr
  ·cases hr
 ·cases hr
theorem CO {h:Hp} {x:V} {l:Bs} (hr:Rd h x l) (hl:l.length≤1000000):yD [x] h=some (.arr 22 ((cP l).map aa),h):=by
 have he:=hr.1 h (Fw.refl _ _)
 simp only[yD,he,jN,hr.2,hl,and_self,if_true]
noncomputable def pr :CF:=fun f vs h=> match f with
 | 89=> dF vs h
 | 110=> yE vs h
 | 109=> fe (some 37) 96 vs h
 | 55=> yD vs h
 | _=> none
theorem IA (b:Nat) (h:Hp) (x y:V) (l m:Bs) (hx:BR h x l) (hy:BR h y m):run fns pr b 146 [x,y] h=some (.s (.bool (decide (l=m))),h):=by
 refine Vm.aR (nt:=10) rfl Ii (by simp) ?_
 have h1:=hx.CP (cf:=run fns pr h.length) (base:=h.length)
 have h2:=hy.CP (cf:=run fns pr h.length) (base:=h.length)
 have:(decide ((⟨l.toArray⟩:ByteArray)=⟨m.toArray⟩))=decide (l=m):=by
   rw[decide_eq_decide];simp
 simp only[L6,go_sem,simprocAttr,h1,h2,this]
theorem q18z {n:Nat} (h:n < 4611686018427387904):IntKind.i64.wrap ((n:Int)+1)=((n+1:Nat):Int):=by
 rw[wrap_i64 (by omega) (by omega)];omega
theorem Ei (b:Nat) (h:Hp) (n lo hi:Int) (h1: -1000000000≤lo) (h2:lo≤hi) (h3:hi≤1000000000) (yq: -9223372036854775808≤n) (hn1:n≤9223372036854775807):
 run fns pr b 13 [.s (.int .i64 n),.s (.int .i64 lo),.s (.int .i64 hi)] h=some (.s (.int .i64 (within n lo hi)),h):=by
 refine Vm.aR (nt:=33) rfl T8 (by simp) ?_
 have w1:IntKind.i64.wrap (hi - lo)=hi - lo:=wrap_i64 (by omega) (by omega)
 have w2:IntKind.i64.wrap (hi - lo+1)=hi - lo+1:=wrap_i64 (by omega) (by omega)
 have hm:=Iu (n:=n) (m:=hi - lo+1) (by omega)
 have e0:=Int.emod_nonneg n (show hi - lo+1≠0 by omega)
 have e1:=Int.emod_lt_of_pos n (show 0 < hi - lo+1 by omega)
 have hq:=fun cf base h=> qY cf base h .i64 n (hi - lo+1) (by omega)
 by_cases c1:lo≤n
 ·by_cases c2:n≤hi
  ·have:within n lo hi=n:=by simp[within,c1,c2]
   rw[this]
   simp only[B13,go_sem,simprocAttr,c1,c2]
  ·have hw:within n lo hi=lo+n %(hi - lo+1):=by simp[within,c2]
   rw[hw,hm]
   by_cases c3:n.tmod (hi - lo+1)< 0
   ·rw[if_pos c3] at hm ⊢
    have w3:IntKind.i64.wrap (n.tmod (hi - lo+1)+hi)=n.tmod (hi - lo+1)+hi:=wrap_i64 (by omega) (by omega)
    have w4:IntKind.i64.wrap (n.tmod (hi - lo+1)+hi - lo)=n.tmod (hi - lo+1)+hi - lo:=wrap_i64 (by omega) (by omega)
    have w5:IntKind.i64.wrap (n.tmod (hi - lo+1)+hi - lo+1)=n.tmod (hi - lo+1)+hi - lo+1:=wrap_i64 (by omega) (by omega)
    have w6:IntKind.i64.wrap (lo+(n.tmod (hi - lo+1)+hi - lo+1))=lo+(n.tmod (hi - lo+1)+hi - lo+1):=wrap_i64 (by omega) (by omega)
    simp only[B13,go_sem,simprocAttr,c1,c2,w1,w2,hq,c3,w3,w4,w5,w6]
    congr 2;omega
   ·rw[if_neg c3] at hm ⊢
    have w6:IntKind.i64.wrap (lo+n.tmod (hi - lo+1))=lo+n.tmod (hi - lo+1):=wrap_i64 (by omega) (by omega)
    simp only[B13,go_sem,simprocAttr,c1,c2,w1,w2,hq,c3,w6]
 ·have hw:within n lo hi=lo+n %(hi - lo+1):=by simp[within,c1]
  rw[hw,hm]
  by_cases c3:n.tmod (hi - lo+1)< 0
  ·rw[if_pos c3] at hm ⊢
   have w3:IntKind.i64.wrap (n.tmod (hi - lo+1)+hi)=n.tmod (hi - lo+1)+hi:=wrap_i64 (by omega) (by omega)
   have w4:IntKind.i64.wrap (n.tmod (hi - lo+1)+hi - lo)=n.tmod (hi - lo+1)+hi - lo:=wrap_i64 (by omega) (by omega)
   have w5:IntKind.i64.wrap (n.tmod (hi - lo+1)+hi - lo+1)=n.tmod (hi - lo+1)+hi - lo+1:=wrap_i64 (by omega) (by omega)
   have w6:IntKind.i64.wrap (lo+(n.tmod (hi - lo+1)+hi - lo+1))=lo+(n.tmod (hi - lo+1)+hi - lo+1):=wrap_i64 (by omega) (by omega)
   simp only[B13,go_sem,simprocAttr,c1,w1,w2,hq,c3,w3,w4,w5,w6]
   congr 2;omega
  ·rw[if_neg c3] at hm ⊢
   have w6:IntKind.i64.wrap (lo+n.tmod (hi - lo+1))=lo+n.tmod (hi - lo+1):=wrap_i64 (by omega) (by omega)
   simp only[B13,go_sem,simprocAttr,c1,w1,w2,hq,c3,w6]
set_option maxRecDepth 100000
theorem XE (w:World) (a:Option Addr) (n c:Nat):(binOp .eql 31 (.slice a n c) (.slice none 0 0)).run Tryz.prog w= .ok (.bool a.isNone) w:=by
 simp[binOp,Op.equal,Op.maxDepth,Lib.run_equalIn_slice_nil w 9999 31 5 a n c 0 0 Tryz.underlying31]
def A1 :Go.Vm.C:=(.seq (.af [⟨some 5,.jg none [] [],[],none⟩,⟨some 6,.mv,[.t 0],none⟩,⟨some 7,.app none 1,[.t 5,.t 6],none⟩,⟨some 2,.mv,[.t 7],none⟩]) .ret)
theorem A2 (x:V) (h:Hp) (v:V) (h':Hp) (hc:dF [x] h=some (v,h')):∃fr',exec (fun _ _ _=> none) 0 A1 [x,.bM [],.aq true none [],x,.s (.bool false),.bM [],.bM [],.bM []] h=some (.ret,fr',h')∧kH fr' h' [.t 2]=some [v]:=by
 simp only[dF] at hc
 split at hc
 case h_2=> cases hc
 rename_i es he
 have nA:source h x=some (none,es):=by
   cases x with
   | s y=> simp[elems] at he
   | _=> exact he
 have yF:aD (fun _ _ _=> none) 0 h (.app none 1) [.aq true none [],x]=some (v,h'):=by
   simp only[aD,od,nA,adn,cW]
   split at hc
   ·rename_i h0;cases hc;simp[h0,eN]
   ·rename_i h0
    split at hc
    ·rename_i h1;cases hc;simp[h0,h1]
    ·cases hc
 refine ⟨[x,.bM [],v,x,.s (.bool false),.aq true none [],x,v],?_,rfl⟩
 have h1:∀fr h,aD (fun _ _ _=> none) 0 h (.jg none [] []) (List.map (X.ev fr) [])=some (.aq true none [],h):=fun _ _=> rfl
 have h2:kI (fun _ _ _=> none) 0 [⟨some 5,.jg none [] [],[],none⟩,⟨some 6,.mv,[.t 0],none⟩,⟨some 7,.app none 1,[.t 5,.t 6],none⟩,⟨some 2,.mv,[.t 7],none⟩] [x,.bM [],.aq true none [],x,.s (.bool false),.bM [],.bM [],.bM []] h=
  match aD (fun _ _ _=> none) 0 h (.app none 1) [.aq true none [],x] with
  | some (v,h')=> some ([x,.bM [],v,x,.s (.bool false),.aq true none [],x,v],h')
  | none=> none:=by
   show (match aD (fun _ _ _=> none) 0 h (.app none 1) [.aq true none [],x] with
     | some (v,h')=> _
     | none=> none)=_
   cases aD (fun _ _ _=> none) 0 h (.app none 1) [.aq true none [],x]<;> rfl
 simp only[A1,exec,h2,yF,aco]
theorem qZ (hL:(ak Tryz.prog).OK) {c:Ctx} {w:World} {x:V} {u:Value} {h:Hp} {v:V} {h':Hp} (hc:dF [x] h=some (v,h')) (hx:RV (ak Tryz.prog) c x u) (hs:bm (ak Tryz.prog) c h w):ff Tryz.prog (ak Tryz.prog) c w 89 [u] v h':=by
 have Ax:∃a n k,u= .slice a n k∧(a=none→n=0∧v= .aq true none []∧h'=h):=by
   simp only[dF] at hc
   split at hc
   case h_2=> cases hc
   rename_i es he
   cases x with
   | aq f g es'=>
     obtain ⟨a,k,h1,h2,h3,h4,h5⟩:=cX.1 hx
     refine ⟨a,_,k,h1,fun ha=> ?_⟩
     rcases h5 with h5 | ⟨b,off,cs,ty,fz,pf,_⟩
     ·simp only[elems,Option.some.injEq,Prod.mk.injEq] at he
      obtain ⟨rfl,rfl⟩:=he
      rw[if_pos h5] at hc
      cases hc
      exact ⟨by simp[h5],rfl,rfl⟩
     ·rw[ha] at pf;cases pf
   | ref id path g off len az=>
     obtain ⟨a,k,h1,_⟩:=oK.1 hx
     exact ⟨some a,len,k,h1,fun h=> by cases h⟩
   | _=> simp[elems] at he
 obtain ⟨a,n,k,rfl,nT⟩:=Ax
 cases a with
 | none=>
   obtain ⟨rfl,rfl,rfl⟩:=nT rfl
   have q:=fun w=> XE w none 0 k
   simp only[Option.isNone_none] at q
   unfold ff
   go_enter Tryz.func89,Tryz.ntmps89
   go_wp2
   refine bodyPost_ret (v:= .slice none 0 0) (by simp[results,Tryz.results89,go_sem]) rfl ?_
   exact ⟨_,rfl,c,fp (fun _=> rfl),hs,Ctx.le_refl _,St.refl _⟩
 | some a=>
   have q:=fun w=> XE w (some a) n k
   simp only[Option.isNone_some] at q
   unfold ff
   go_enter Tryz.func89,Tryz.ntmps89
   refine Go.wp_seq_k fun K1 h1=> ?_
   have h1':=Lib.hid h1;clear h1
   go_wp2
   refine h1'.out _ _ ?_
   refine Go.wp_seq_k fun K2 h2=> ?_
   have h2':=Lib.hid h2;clear h2
   go_wp2
   refine h2'.out _ _ ?_
   obtain ⟨fr',yG,hx2⟩:=A2 x h v h' hc
   refine oL (obj:=ob) (k:=A1) (base:=0) (fr:=[x,.bM [],.aq true none [],x,.s (.bool false),.bM [],.bM [],.bM []]) hL (cf:=fun _ _ _=> none) (fun f vs h v h' hr=> by cases hr) (by kernel_rfl) ?_ hs yG ?_
   ·exact ⟨hx,cB.2 ⟨[],rfl,trivial⟩,fp (fun _=> rfl),hx,bB.2 ⟨rfl,rfl⟩,cB.2 ⟨[],rfl,trivial⟩,cB.2 ⟨[],rfl,trivial⟩,cB.2 ⟨[],rfl,trivial⟩,trivial⟩
   ·intro a1 c1 w1 p1 p2 p3 p4 p5
    obtain ⟨u,hu1,Ay⟩:=mF hL p1 p2 (fn:=Tryz.f89) (rs:=[.t 2]) (by kernel_rfl) hx2
    exact ⟨p5,u,hu1,u,c1,rfl,Ay,p2,p3,p4⟩
theorem pq {vs:List V} {h:Hp} {v:V} {h':Hp} (hc:dF vs h=some (v,h')):∃x,vs=[x]:=by
 unfold dF at hc
 split at hc
 ·exact ⟨_,rfl⟩
 ·cases hc
theorem vx {vs:List V} {h:Hp} {v:V} {h':Hp} (hr:dF vs h=some (v,h')) (base:Nat):Kp base h h':=by
 unfold dF at hr
 split at hr
 ·split at hr
  ·split at hr
   ·cases hr;exact Kp.refl _ _
   ·split at hr
    ·cases hr;exact Kp.append _ _ _
    ·cases hr
  ·cases hr
 ·cases hr
set_option maxRecDepth 100000
def A3 :CF:=fun f vs h=> match f with
 | 89=> dF vs h
 | _=> none
theorem Rj :cC Tryz.prog (ak Tryz.prog) A3:=by
 intro f vs h v h' hr
 unfold A3 at hr
 split at hr
 ·obtain ⟨x,rfl⟩:=pq hr
  refine ⟨⟨_,Tryz.func89,rfl,by kernel_rfl⟩,fun c w us hv hs=> ?_⟩
  match us,hv with
  | [u],hv=> exact qZ oI hr hv.1 hs
 ·cases hr
theorem Rk :KpP A3:=by
 intro f vs h v h' hr base
 unfold A3 at hr
 split at hr
 ·exact vx hr base
 ·cases hr
theorem sb (b:Nat) (h:Hp) (x k:Nat) (hx:x < 4294967296) (hk:k=16∨k=12∨k=8∨k=7):run qf A3 b 137 [.s (.int .u32 x),.s (.int .i64 k)] h=some (.s (.int .u32 (pj k x:Nat)),h):=by
 refine Vm.aR (nt:=17) rfl QS (by simp) ?_
 have s1:xa .u32 (x:Int) (k:Int)=_:=Iv (a:=x) (k:=k) (by omega)
 have s2:sN .u32 (x:Int) ((32 - k:Nat):Int)=_:=Iw (a:=x) (k:=32 - k) (by omega)
 have s3:=Rh (a:=x * 2 ^ k % 4294967296) (b:=x / 2 ^(32 - k)) (adZ _ (by decide)) (ad3 (adS _ _) hx)
 rw[AY hx (by omega)] at s3
 have w1:IntKind.u64.wrap (k:Int)=(k:Int):=wrap_u64 (by omega) (by omega)
 have a1:XF .u64 (k:Int) 31=(k:Int):=by rcases hk with rfl | rfl | rfl | rfl <;> rfl
 have w2:IntKind.u64.wrap (32 - (k:Int))=((32 - k:Nat):Int):=by rw[wrap_u64 (by omega) (by omega)];omega
 have h1:=fun cf base h=> yH cf base h .u32 .u64 (x:Int) (k:Int) (by omega)
 have h2:=fun cf base h=> sR cf base h .u32 .u64 (x:Int) ((32 - k:Nat):Int) (by omega)
 have au:(0:Nat)=0:=rfl
 try simp only[L2,w1,a1,w2,h1,h2,s1,s2,s3,go_sem,simprocAttr]
 repeat' (
   first | refine q5z ?_ ?_ | refine q3z ?_ ?_ | refine q4z ?_ ?_
   all_goals intro ai
   all_goals first | replace ai:=q2z ai | replace ai:=q1z ai | skip
   all_goals first | subst ai | replace au:=And.intro ai au
   all_goals try simp only[au,L2,w1,a1,w2,h1,h2,s1,s2,s3,go_sem,simprocAttr])
theorem fJ (p:Bool) (n:Value):(p || (V.s n).ground)=true:=by cases p <;> rfl
theorem CQ (b:Nat) (h:Hp) (id:Nat) (x:W) (hg:h[id]? =some (.cells (some 147) [.arr 147 x.vs])):
 run qf A3 b 103 [.ptr id [0] 1] h=some (.bM [],h.set id (.cells (some 147) [.arr 147 (iy x).vs])):=by
 refine Vm.aR (nt:=98) rfl PC (by simp) ?_
 have oM:∀c,(h.set id c)[id]? =some c:=fun c=> q9z hg
 have IB:∀c d,(h.set id c).set id d=h.set id d:=fun c d=> ac4 ..
 have dU:∀c,(h.set id c).take h.length=h.set id c:=fun c=> abX (by rw[adw];exact ab0 _)
 have r16:∀b h y z,run qf A3 b 137 [.s (.int .u32 ((xr y z:Nat):Int)),.s (.int .i64 16)] h=some (.s (.int .u32 ((pj 16 (xr y z):Nat):Int)),h):=fun b h y z=> sb b h _ 16 (me _ _) (by omega)
 have r12:∀b h y z,run qf A3 b 137 [.s (.int .u32 ((xr y z:Nat):Int)),.s (.int .i64 12)] h=some (.s (.int .u32 ((pj 12 (xr y z):Nat):Int)),h):=fun b h y z=> sb b h _ 12 (me _ _) (by omega)
 have r8:∀b h y z,run qf A3 b 137 [.s (.int .u32 ((xr y z:Nat):Int)),.s (.int .i64 8)] h=some (.s (.int .u32 ((pj 8 (xr y z):Nat):Int)),h):=fun b h y z=> sb b h _ 8 (me _ _) (by omega)
 have r7:∀b h y z,run qf A3 b 137 [.s (.int .u32 ((xr y z:Nat):Int)),.s (.int .i64 7)] h=some (.s (.int .u32 ((pj 7 (xr y z):Nat):Int)),h):=fun b h y z=> sb b h _ 7 (me _ _) (by omega)
 simp only[W.vs] at hg
 have l0:(0:Int)<((4:Nat):Int):=by decide
 have l1:(1:Int)<((4:Nat):Int):=by decide
 have l2:(2:Int)<((4:Nat):Int):=by decide
 have l3:(3:Int)<((4:Nat):Int):=by decide
 have au:(0:Nat)=0:=rfl
 try simp only[LO,l0,l1,l2,l3,hg,oM,IB,dU,Ma,yB,r16,r12,r8,r7,fJ,go_sem,simprocAttr]
 repeat' (
   first | refine q5z ?_ ?_ | refine q3z ?_ ?_ | refine q4z ?_ ?_
   all_goals intro ai
   all_goals first | replace ai:=q2z ai | replace ai:=q1z ai | skip
   all_goals first | subst ai | replace au:=And.intro ai au
   all_goals try simp only[au,LO,l0,l1,l2,l3,hg,oM,IB,dU,Ma,yB,r16,r12,r8,r7,fJ,go_sem,simprocAttr])
 all_goals rfl
theorem IC (b:Nat) (h:Hp) (x:V) (l:Bs) (hb:BR h x l) (hl:4≤l.length):run qf A3 b 102 [x] h=some (.s (.int .u32 (nS l:Nat)),h):=by
 refine Vm.aR (nt:=18) rfl PA (by simp) ?_
 have au:(0:Nat)=0:=rfl
 try simp only[LN,AN,AM,go_sem,simprocAttr]
 repeat' (
   first | refine q5z ?_ ?_ | refine q3z ?_ ?_ | refine q4z ?_ ?_
   all_goals intro ai
   all_goals first | replace ai:=q2z ai | replace ai:=q1z ai | skip
   all_goals first | subst ai | replace au:=And.intro ai au
   all_goals try simp only[au,LN,AN,AM,go_sem,simprocAttr])
 have jK:SR h x none (l.map aa):=by
   rcases hb with ⟨f,rfl⟩ | ⟨id,off,bl,rfl,h1,h2,h3⟩
   ·exact .inl ⟨f,rfl⟩
   ·exact .inr ⟨id,off,bl.length,bl.map aa,by simp,h1,by simp,by simpa using h2,by rw[acf,←List.map_drop,←List.map_take,h3]⟩
 have hv:∀i,i < 4→∃u:Nat,u < 256∧(l.getD i 0).toNat=u∧(∀cf base,aD cf base h (.dz none) [x,.s (.int .i64 (i:Nat))]=some (lh x i,h))∧(∀cf base,aD cf base h (.ld none) [lh x i]=some (.s (.int .u8 u),h)):=by
   intro i hi
   have h1:l[i]? =some (l.getD i 0):=by rw[List.getD,abV (by omega)];rfl
   exact ⟨_,(l.getD i 0).toNat_lt,rfl,fun cf base=> jK.cZ (by simp;omega),fun cf base=> jK.iA (v:=aa (l.getD i 0)) (by rw[ab9,h1];rfl) rfl⟩
 refine bw (fun m e H=>∃j,m=j∧j≤4∧e 4= .s (.int .i64 ((j:Nat) - 1))∧e 3= .s (.int .u32 (nS l / 256 ^ j:Nat))∧e 0=x∧H=h)
   (fun e H=> e 3= .s (.int .u32 (nS l:Nat))∧H=h)
   4 _ _ ⟨4,rfl,by omega,rfl,by rw[CN];rfl,rfl,rfl⟩ ?_ ?_
 ·rintro m e H ⟨j,rfl,hj,e4,e3,e0,rfl⟩
  cases m with
  | zero=>
    have c':¬(0:Int)≤((0:Nat):Int) - 1:=by omega
    rw[afm,afh] at e3
    have au:(0:Nat)=0:=rfl
    try simp only[e4,c',go_sem,simprocAttr]
    repeat' (
      first | refine q5z ?_ ?_ | refine q3z ?_ ?_ | refine q4z ?_ ?_
      all_goals intro ai
      all_goals first | replace ai:=q2z ai | replace ai:=q1z ai | skip
      all_goals first | subst ai | replace au:=And.intro ai au
      all_goals try simp only[au,e4,c',go_sem,simprocAttr])
    all_goals exact e3
  | succ j=>
    have hj1:(((j+1:Nat):Int) - 1)=(j:Int):=by omega
    rw[hj1] at e4
    have c':(0:Int)≤(j:Int):=by omega
    obtain ⟨u,hu,Ay,fg,ID⟩:=hv j (by omega)
    have aZ:=yC l j (by omega)
    have IE:=vw l j
    rw[Ay] at aZ
    generalize nS l / 256 ^(j+1)=y at e3 aZ IE
    have hw:IntKind.i64.wrap ((j:Int) - 1)=(j:Int) - 1:=wrap_i64 (by omega) (by omega)
    have wu:IntKind.u32.wrap (u:Int)=(u:Int):=wrap_u32 (by omega) (by omega)
    have s1:xa .u32 (y:Int) 8=_:=Iv (a:=y) (k:=8) (by omega)
    have e1:y * 2 ^ 8 % 4294967296=y * 2 ^ 8:=adW (by omega)
    rw[e1] at s1
    have h1:∀cf base h,aD cf base h (.bin .num .shl) [.s (.int .u32 y),.s (.int .u64 8)]=some (.s (.int .u32 ((y * 2 ^ 8:Nat):Int)),h):=fun cf base h=> by rw[←s1];exact yH cf base h .u32 .u64 (y:Int) 8 (by omega)
    have s3:=Rh (a:=y * 2 ^ 8) (b:=u) (by omega) (by omega)
    rw[AX (show u < 2 ^ 8 from hu)] at s3
    rw[show y * 2 ^ 8+u=y * 256+u from rfl,aZ] at s3
    clear s1 e1
    generalize y * 2 ^ 8=y1 at h1 s3
    have au:(0:Nat)=0:=rfl
    try simp only[e4,e3,e0,c',fg,ID,wu,h1,s3,hw,go_sem,simprocAttr]
    repeat' (
      first | refine q5z ?_ ?_ | refine q3z ?_ ?_ | refine q4z ?_ ?_
      all_goals intro ai
      all_goals first | replace ai:=q2z ai | replace ai:=q1z ai | skip
      all_goals first | subst ai | replace au:=And.intro ai au
      all_goals try simp only[au,e4,e3,e0,c',fg,ID,wu,h1,s3,hw,go_sem,simprocAttr])
    all_goals exact ⟨j,by omega,j,rfl,by omega,rfl,rfl⟩
 ·rintro e H ⟨e3,rfl⟩
  have au:(0:Nat)=0:=rfl
  try simp only[e3,go_sem,simprocAttr]
  repeat' (
    first | refine q5z ?_ ?_ | refine q3z ?_ ?_ | refine q4z ?_ ?_
    all_goals intro ai
    all_goals first | replace ai:=q2z ai | replace ai:=q1z ai | skip
    all_goals first | subst ai | replace au:=And.intro ai au
    all_goals try simp only[au,e3,go_sem,simprocAttr])
end Go.Proofs.YtggjbepemdhohaaGreat
