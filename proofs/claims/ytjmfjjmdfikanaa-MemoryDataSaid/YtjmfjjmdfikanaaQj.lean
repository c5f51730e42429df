/- Parts of programs that a deck makes, on trees. -/
import Derived.Test.YtjmfjjmdfikanaaQi
set_option linter.unusedVariables false
set_option linter.unusedSimpArgs false
namespace Go.Proofs.Ytjmfjjmdfikanaa
open Go.RowKit

def tfPart (cB cR : TCode) : TFn := { np := 4, pp := [0], nt := 232, body := .seq (.reg 0 none [{ dst := some 8, guard := none, op := .asn true (.c (.slice none 0 0)) }] ([0, 1, 2, 3], [2, 3, 4, 5, 6, 7, 8, 9])) (.seq (.reg 1 none [{ dst := some 12, guard := none, op := .mov (.t 0) }, { dst := some 13, guard := none, op := .mov (.t 1) }, { dst := some 14, guard := none, op := .len (.t 13) }, { dst := some 15, guard := none, op := .call true (.f 14) [(some 2, .t 12), (none, .t 14)] }, { dst := some 9, guard := none, op := .asn true (.t 15) }] ([0, 1, 2, 3, 9], [2, 3, 4, 5, 6, 7, 8, 9, 20, 21])) (.seq (.reg 2 none [{ dst := some 16, guard := none, op := .mov (.t 0) }, { dst := some 17, guard := none, op := .mov (.t 1) }, { dst := some 18, guard := none, op := .mov (.t 9) }, { dst := some 19, guard := none, op := .idx 1 (.t 17) (.t 18) }, { dst := some 20, guard := none, op := .load none (.t 19) }, { dst := some 21, guard := none, op := .bin (.add) (.t 20) (.c (.int (.i64) 1)) }, { dst := some 22, guard := none, op := .mm false [.c (.int (.i64) 5), .t 21] }, { dst := some 23, guard := none, op := .call true (.f 14) [(some 2, .t 16), (none, .t 22)] }, { dst := some 10, guard := none, op := .asn true (.t 23) }] ([0, 1, 2, 3, 9, 10], [2, 3, 4, 5, 6, 7, 8, 9, 20, 21, 22, 23])) (.seq (.reg 3 none [{ dst := some 24, guard := none, op := .mov (.t 9) }, { dst := some 25, guard := none, op := .bld [.int (.i64) 0, .int (.i64) 0, .int (.i64) 0, .int (.i64) 0, .int (.i64) 0] false [(0, 1, .c (.int (.i64) 15)), (1, 1, .c (.int (.i64) 1)), (4, 1, .t 24)] }, { dst := some 26, guard := none, op := .mov (.t 10) }, { dst := some 27, guard := none, op := .call true (.f 16) [(none, .c (.int (.i64) 2)), (none, .t 26)] }, { dst := some 28, guard := none, op := .bsl 5 true 2 [.t 25, .t 27] }, { dst := some 11, guard := none, op := .asn true (.t 28) }] ([0, 1, 2, 3, 9, 11], [2, 3, 4, 5, 6, 7, 8, 9, 20, 21, 24, 25])) (.seq (.seq (.reg 4 none [{ dst := some 29, guard := none, op := .mov (.t 0) }, { dst := some 30, guard := none, op := .call true (.f 14) [(some 2, .t 29), (none, .c (.int (.i64) 20))] }] ([0, 1, 2, 3, 9, 11, 30], [2, 3, 4, 5, 6, 7, 8, 9, 20, 21, 24, 25, 62, 63])) cB) (.seq cR (.ret)))))), res := [.tmp 8] }
def partB : TCode := (.block 0 (.seq (.reg 5 none [{ dst := some 32, guard := none, op := .bin (.eql) (.t 30) (.c (.int (.i64) 0)) }, { dst := some 31, guard := none, op := .asn true (.t 32) }] ([0, 1, 2, 3, 9, 11, 30, 31], [2, 3, 4, 5, 6, 7, 8, 9, 20, 21, 24, 25, 62, 63, 64, 65])) (.cond (.t 31) (.seq (.reg 6 none [{ dst := some 33, guard := none, op := .mov (.t 0) }, { dst := some 34, guard := none, op := .call true (.f 14) [(some 2, .t 33), (none, .c (.int (.i64) 3))] }, { dst := some 35, guard := none, op := .bin (.add) (.c (.int (.i64) 3)) (.t 34) }, { dst := some 36, guard := none, op := .mov (.t 0) }, { dst := some 37, guard := none, op := .call true (.f 27) [(some 2, .t 36)] }, { dst := some 38, guard := none, op := .conv (.i64) (.t 37) }, { dst := some 39, guard := none, op := .call true (.f 16) [(none, .t 35), (none, .t 38)] }, { dst := some 40, guard := none, op := .bsl 5 true 1 [.t 39] }, { dst := some 8, guard := none, op := .asn true (.t 40) }] ([0, 8], [2, 3, 18, 19])) (.ret)) (.seq (.reg 7 none [{ dst := some 42, guard := none, op := .bin (.eql) (.t 30) (.c (.int (.i64) 1)) }, { dst := some 41, guard := none, op := .asn true (.t 42) }] ([0, 1, 2, 3, 9, 11, 30, 41], [2, 3, 4, 5, 6, 7, 8, 9, 20, 21, 24, 25, 62, 63, 84, 85])) (.cond (.t 41) (.seq (.reg 8 (some [[], [], [1], [0, 2, 1], [3, 0, 2, 1], [], [5, 2, 1], [6, 5, 2, 1], [], [8, 6, 5, 2, 1], [9, 8, 6, 5, 2, 1], [], [11, 9, 8, 6, 5, 2, 1], [12, 11, 9, 8, 6, 5, 2, 1], [4, 3, 0, 2, 1, 7, 6, 5, 10, 9, 8, 13, 12, 11], [14, 4, 3, 0, 2, 1, 7, 6, 5, 10, 9, 8, 13, 12, 11], [15, 14, 4, 3, 0, 2, 1, 7, 6, 5, 10, 9, 8, 13, 12, 11]]) [{ dst := some 43, guard := none, op := .bsl 1 true 8 [.c (.int (.i64) 3), .c (.int (.i64) 4), .c (.int (.i64) 5), .c (.int (.i64) 10), .c (.int (.i64) 13), .c (.int (.i64) 14), .c (.int (.i64) 11), .c (.int (.i64) 9)] }, { dst := some 44, guard := none, op := .mov (.t 0) }, { dst := some 45, guard := none, op := .call true (.f 14) [(some 2, .t 44), (none, .c (.int (.i64) 8))] }, { dst := some 46, guard := none, op := .idx 1 (.t 43) (.t 45) }, { dst := some 47, guard := none, op := .load none (.t 46) }, { dst := some 48, guard := none, op := .mov (.t 0) }, { dst := some 49, guard := none, op := .call true (.f 14) [(some 2, .t 48), (none, .c (.int (.i64) 3))] }, { dst := some 50, guard := none, op := .bin (.add) (.c (.int (.i64) 3)) (.t 49) }, { dst := some 51, guard := none, op := .mov (.t 0) }, { dst := some 52, guard := none, op := .call true (.f 14) [(some 2, .t 51), (none, .c (.int (.i64) 3))] }, { dst := some 53, guard := none, op := .bin (.add) (.c (.int (.i64) 3)) (.t 52) }, { dst := some 54, guard := none, op := .mov (.t 0) }, { dst := some 55, guard := none, op := .call true (.f 14) [(some 2, .t 54), (none, .c (.int (.i64) 3))] }, { dst := some 56, guard := none, op := .bin (.add) (.c (.int (.i64) 3)) (.t 55) }, { dst := some 57, guard := none, op := .bld [.int (.i64) 0, .int (.i64) 0, .int (.i64) 0, .int (.i64) 0, .int (.i64) 0] false [(0, 1, .t 47), (1, 1, .t 50), (2, 1, .t 53), (3, 1, .t 56)] }, { dst := some 58, guard := none, op := .bsl 5 true 1 [.t 57] }, { dst := some 8, guard := none, op := .asn true (.t 58) }] ([0, 8], [2, 3, 18, 19])) (.ret)) (.seq (.reg 9 none [{ dst := some 60, guard := none, op := .bin (.eql) (.t 30) (.c (.int (.i64) 2)) }, { dst := some 59, guard := none, op := .asn true (.t 60) }] ([0, 1, 2, 3, 9, 11, 30, 59], [2, 3, 4, 5, 6, 7, 8, 9, 20, 21, 24, 25, 62, 63, 120, 121])) (.cond (.t 59) (.seq (.reg 10 none [{ dst := some 61, guard := none, op := .mov (.t 9) }, { dst := some 62, guard := none, op := .bld [.int (.i64) 0, .int (.i64) 0, .int (.i64) 0, .int (.i64) 0, .int (.i64) 0] true [(0, 1, .c (.int (.i64) 15)), (1, 1, .c (.int (.i64) 6)), (4, 1, .t 61)] }, { dst := some 63, guard := none, op := .bsl 5 true 1 [.t 62] }, { dst := some 8, guard := none, op := .asn true (.t 63) }] ([0, 8], [2, 3, 18, 19])) (.ret)) (.seq (.seq (.reg 11 none [{ dst := some 65, guard := none, op := .bin (.eql) (.t 30) (.c (.int (.i64) 3)) }, { dst := some 64, guard := none, op := .asn true (.t 65) }] ([0, 1, 2, 3, 9, 11, 30, 64], [2, 3, 4, 5, 6, 7, 8, 9, 20, 21, 24, 25, 62, 63, 130, 131])) (.cond (.t 64) (.nrm ([0, 1, 2, 3, 9, 11, 30, 64], [2, 3, 4, 5, 6, 7, 8, 9, 20, 21, 24, 25, 62, 63, 130, 131])) (.reg 12 none [{ dst := some 66, guard := none, op := .bin (.eql) (.t 30) (.c (.int (.i64) 4)) }, { dst := some 64, guard := none, op := .asn true (.t 66) }] ([0, 1, 2, 3, 9, 11, 30, 64], [2, 3, 4, 5, 6, 7, 8, 9, 20, 21, 24, 25, 62, 63, 130, 131])))) (.cond (.t 64) (.seq (.reg 13 (some [[], [0], [], [2], [3, 2], [], [], [], [6, 7], [8, 6, 7], [5, 9, 8, 6, 7, 3, 2], [4, 3, 2, 10, 5, 9, 8, 6, 7], [1, 0, 11, 4, 3, 2, 10, 5, 9, 8, 6, 7], [12, 1, 0, 11, 4, 3, 2, 10, 5, 9, 8, 6, 7]]) [{ dst := some 67, guard := none, op := .mov (.t 9) }, { dst := some 68, guard := none, op := .bld [.int (.i64) 0, .int (.i64) 0, .int (.i64) 0, .int (.i64) 0, .int (.i64) 0] false [(0, 1, .c (.int (.i64) 15)), (1, 1, .c (.int (.i64) 6)), (4, 1, .t 67)] }, { dst := some 69, guard := none, op := .mov (.t 0) }, { dst := some 70, guard := none, op := .call true (.f 14) [(some 2, .t 69), (none, .c (.int (.i64) 5))] }, { dst := some 71, guard := none, op := .bin (.add) (.c (.int (.i64) 3)) (.t 70) }, { dst := some 72, guard := none, op := .mov (.t 0) }, { dst := some 73, guard := none, op := .mov (.t 1) }, { dst := some 74, guard := none, op := .mov (.t 9) }, { dst := some 75, guard := none, op := .idx 1 (.t 73) (.t 74) }, { dst := some 76, guard := none, op := .load none (.t 75) }, { dst := some 77, guard := none, op := .call true (.f 14) [(some 2, .t 72), (none, .t 76)] }, { dst := some 78, guard := none, op := .bld [.int (.i64) 0, .int (.i64) 0, .int (.i64) 0, .int (.i64) 0, .int (.i64) 0] true [(0, 1, .c (.int (.i64) 17)), (1, 1, .c (.int (.i64) 6)), (2, 1, .t 71), (4, 1, .t 77)] }, { dst := some 79, guard := none, op := .bsl 5 true 2 [.t 68, .t 78] }, { dst := some 8, guard := none, op := .asn true (.t 79) }] ([0, 8], [2, 3, 18, 19])) (.ret)) (.seq (.seq (.reg 14 none [{ dst := some 81, guard := none, op := .bin (.eql) (.t 30) (.c (.int (.i64) 5)) }, { dst := some 80, guard := none, op := .asn true (.t 81) }] ([0, 1, 2, 3, 9, 11, 30, 80], [2, 3, 4, 5, 6, 7, 8, 9, 20, 21, 24, 25, 62, 63, 162, 163])) (.cond (.t 80) (.nrm ([0, 1, 2, 3, 9, 11, 30, 80], [2, 3, 4, 5, 6, 7, 8, 9, 20, 21, 24, 25, 62, 63, 162, 163])) (.reg 15 none [{ dst := some 82, guard := none, op := .bin (.eql) (.t 30) (.c (.int (.i64) 6)) }, { dst := some 80, guard := none, op := .asn true (.t 82) }] ([0, 1, 2, 3, 9, 11, 30, 80], [2, 3, 4, 5, 6, 7, 8, 9, 20, 21, 24, 25, 62, 63, 162, 163])))) (.cond (.t 80) (.seq (.reg 16 (some [[], [0], [], [2], [3, 2], [], [], [], [6, 7], [8, 6, 7], [5, 9, 8, 6, 7, 3, 2], [4, 3, 2, 10, 5, 9, 8, 6, 7], [1, 0, 11, 4, 3, 2, 10, 5, 9, 8, 6, 7], [12, 1, 0, 11, 4, 3, 2, 10, 5, 9, 8, 6, 7]]) [{ dst := some 83, guard := none, op := .mov (.t 9) }, { dst := some 84, guard := none, op := .bld [.int (.i64) 0, .int (.i64) 0, .int (.i64) 0, .int (.i64) 0, .int (.i64) 0] false [(0, 1, .c (.int (.i64) 15)), (1, 1, .c (.int (.i64) 6)), (4, 1, .t 83)] }, { dst := some 85, guard := none, op := .mov (.t 0) }, { dst := some 86, guard := none, op := .call true (.f 14) [(some 2, .t 85), (none, .c (.int (.i64) 4))] }, { dst := some 87, guard := none, op := .bin (.add) (.c (.int (.i64) 3)) (.t 86) }, { dst := some 88, guard := none, op := .mov (.t 0) }, { dst := some 89, guard := none, op := .mov (.t 1) }, { dst := some 90, guard := none, op := .mov (.t 9) }, { dst := some 91, guard := none, op := .idx 1 (.t 89) (.t 90) }, { dst := some 92, guard := none, op := .load none (.t 91) }, { dst := some 93, guard := none, op := .call true (.f 14) [(some 2, .t 88), (none, .t 92)] }, { dst := some 94, guard := none, op := .bld [.int (.i64) 0, .int (.i64) 0, .int (.i64) 0, .int (.i64) 0, .int (.i64) 0] true [(0, 1, .c (.int (.i64) 16)), (1, 1, .t 87), (2, 1, .c (.int (.i64) 6)), (4, 1, .t 93)] }, { dst := some 95, guard := none, op := .bsl 5 true 2 [.t 84, .t 94] }, { dst := some 8, guard := none, op := .asn true (.t 95) }] ([0, 8], [2, 3, 18, 19])) (.ret)) (.seq (.seq (.reg 17 none [{ dst := some 97, guard := none, op := .bin (.eql) (.t 30) (.c (.int (.i64) 7)) }, { dst := some 96, guard := none, op := .asn true (.t 97) }] ([0, 1, 2, 3, 11, 30, 96], [2, 3, 4, 5, 6, 7, 8, 9, 24, 25, 62, 63, 194, 195])) (.cond (.t 96) (.nrm ([0, 1, 2, 3, 11, 30, 96], [2, 3, 4, 5, 6, 7, 8, 9, 24, 25, 62, 63, 194, 195])) (.reg 18 none [{ dst := some 98, guard := none, op := .bin (.eql) (.t 30) (.c (.int (.i64) 8)) }, { dst := some 96, guard := none, op := .asn true (.t 98) }] ([0, 1, 2, 3, 11, 30, 96], [2, 3, 4, 5, 6, 7, 8, 9, 24, 25, 62, 63, 194, 195])))) (.cond (.t 96) (.seq (.reg 19 none [{ dst := some 99, guard := none, op := .mov (.t 0) }, { dst := some 100, guard := none, op := .call true (.f 14) [(some 2, .t 99), (none, .c (.int (.i64) 3))] }, { dst := some 101, guard := none, op := .call true (.f 16) [(none, .c (.int (.i64) 0)), (none, .t 100)] }, { dst := some 102, guard := none, op := .bsl 5 true 1 [.t 101] }, { dst := some 103, guard := none, op := .mov (.t 11) }, { dst := some 104, guard := none, op := .app 5 40 true (.t 102) (.t 103) }, { dst := some 105, guard := none, op := .call true (.f 17) [(none, .c (.int (.i64) 13))] }, { dst := some 106, guard := none, op := .bsl 5 true 1 [.t 105] }, { dst := some 107, guard := none, op := .app 5 40 true (.t 104) (.t 106) }, { dst := some 8, guard := none, op := .asn true (.t 107) }] ([0, 8], [2, 3, 18, 19])) (.ret)) (.seq (.reg 20 none [{ dst := some 109, guard := none, op := .bin (.eql) (.t 30) (.c (.int (.i64) 9)) }, { dst := some 108, guard := none, op := .asn true (.t 109) }] ([0, 1, 2, 3, 11, 30, 108], [2, 3, 4, 5, 6, 7, 8, 9, 24, 25, 62, 63, 218, 219])) (.cond (.t 108) (.seq (.reg 21 none [{ dst := some 110, guard := none, op := .mov (.t 0) }, { dst := some 111, guard := none, op := .call true (.f 14) [(some 2, .t 110), (none, .c (.int (.i64) 3))] }, { dst := some 112, guard := none, op := .call true (.f 16) [(none, .c (.int (.i64) 0)), (none, .t 111)] }, { dst := some 113, guard := none, op := .bsl 5 true 1 [.t 112] }, { dst := some 114, guard := none, op := .mov (.t 11) }, { dst := some 115, guard := none, op := .app 5 40 true (.t 113) (.t 114) }, { dst := some 116, guard := none, op := .call true (.f 17) [(none, .c (.int (.i64) 14))] }, { dst := some 117, guard := none, op := .call true (.f 28) [(none, .c (.int (.i64) 3)), (none, .c (.int (.i64) 0))] }, { dst := some 118, guard := none, op := .bsl 5 true 2 [.t 116, .t 117] }, { dst := some 119, guard := none, op := .app 5 40 true (.t 115) (.t 118) }, { dst := some 8, guard := none, op := .asn true (.t 119) }] ([0, 8], [2, 3, 18, 19])) (.ret)) (.seq (.reg 22 none [{ dst := some 121, guard := none, op := .bin (.eql) (.t 30) (.c (.int (.i64) 10)) }, { dst := some 120, guard := none, op := .asn true (.t 121) }] ([0, 1, 2, 3, 11, 30, 120], [2, 3, 4, 5, 6, 7, 8, 9, 24, 25, 62, 63, 242, 243])) (.cond (.t 120) (.seq (.reg 23 none [{ dst := some 122, guard := none, op := .mov (.t 0) }, { dst := some 123, guard := none, op := .call true (.f 14) [(some 2, .t 122), (none, .c (.int (.i64) 3))] }, { dst := some 124, guard := none, op := .call true (.f 16) [(none, .c (.int (.i64) 0)), (none, .t 123)] }, { dst := some 125, guard := none, op := .mov (.t 0) }, { dst := some 126, guard := none, op := .call true (.f 14) [(some 2, .t 125), (none, .c (.int (.i64) 4))] }, { dst := some 127, guard := none, op := .call true (.f 16) [(none, .c (.int (.i64) 1)), (none, .t 126)] }, { dst := some 128, guard := none, op := .call true (.f 17) [(none, .c (.int (.i64) 3))] }, { dst := some 129, guard := none, op := .call true (.f 28) [(none, .c (.int (.i64) 7)), (none, .c (.int (.i64) 0))] }, { dst := some 130, guard := none, op := .bsl 5 true 4 [.t 124, .t 127, .t 128, .t 129] }, { dst := some 8, guard := none, op := .asn true (.t 130) }] ([0, 8], [2, 3, 18, 19])) (.ret)) (.seq (.reg 24 none [{ dst := some 132, guard := none, op := .bin (.eql) (.t 30) (.c (.int (.i64) 11)) }, { dst := some 131, guard := none, op := .asn true (.t 132) }] ([0, 1, 2, 3, 11, 30, 131], [2, 3, 4, 5, 6, 7, 8, 9, 24, 25, 62, 63, 264, 265])) (.cond (.t 131) (.seq (.reg 25 none [{ dst := some 133, guard := none, op := .call true (.f 28) [(none, .c (.int (.i64) 0)), (none, .c (.int (.i64) 7))] }, { dst := some 134, guard := none, op := .bsl 5 true 1 [.t 133] }, { dst := some 135, guard := none, op := .mov (.t 11) }, { dst := some 136, guard := none, op := .app 5 40 true (.t 134) (.t 135) }, { dst := some 137, guard := none, op := .bsl 1 true 2 [.c (.int (.i64) 1), .c (.int (.i64) 2)] }, { dst := some 138, guard := none, op := .mov (.t 0) }, { dst := some 139, guard := none, op := .call true (.f 14) [(some 2, .t 138), (none, .c (.int (.i64) 2))] }, { dst := some 140, guard := none, op := .idx 1 (.t 137) (.t 139) }, { dst := some 141, guard := none, op := .load none (.t 140) }, { dst := some 142, guard := none, op := .call true (.f 17) [(none, .t 141)] }, { dst := some 143, guard := none, op := .bsl 5 true 1 [.t 142] }, { dst := some 144, guard := none, op := .app 5 40 true (.t 136) (.t 143) }, { dst := some 8, guard := none, op := .asn true (.t 144) }] ([0, 8], [2, 3, 18, 19])) (.ret)) (.seq (.reg 26 none [{ dst := some 146, guard := none, op := .bin (.eql) (.t 30) (.c (.int (.i64) 12)) }, { dst := some 145, guard := none, op := .asn true (.t 146) }] ([0, 1, 2, 3, 30, 145], [2, 3, 4, 5, 6, 7, 8, 9, 62, 63, 292, 293])) (.cond (.t 145) (.seq (.reg 27 none [{ dst := some 147, guard := none, op := .call true (.f 28) [(none, .c (.int (.i64) 0)), (none, .c (.int (.i64) 7))] }, { dst := some 148, guard := none, op := .call true (.f 17) [(none, .c (.int (.i64) 4))] }, { dst := some 149, guard := none, op := .bsl 5 true 2 [.t 147, .t 148] }, { dst := some 150, guard := none, op := .call true (.f 28) [(none, .c (.int (.i64) 0)), (none, .c (.int (.i64) 7))] }, { dst := some 151, guard := none, op := .mov (.t 0) }, { dst := some 152, guard := none, op := .call true (.f 14) [(some 2, .t 151), (none, .c (.int (.i64) 4))] }, { dst := some 153, guard := none, op := .call true (.f 16) [(none, .c (.int (.i64) 1)), (none, .t 152)] }, { dst := some 154, guard := none, op := .call true (.f 17) [(none, .c (.int (.i64) 5))] }, { dst := some 155, guard := none, op := .bsl 5 true 3 [.t 150, .t 153, .t 154] }, { dst := some 156, guard := none, op := .bsl 1 true 2 [.t 149, .t 155] }, { dst := some 157, guard := none, op := .mov (.t 0) }, { dst := some 158, guard := none, op := .call true (.f 14) [(some 2, .t 157), (none, .c (.int (.i64) 2))] }, { dst := some 159, guard := none, op := .idx 1 (.t 156) (.t 158) }, { dst := some 160, guard := none, op := .load none (.t 159) }, { dst := some 8, guard := none, op := .asn true (.t 160) }] ([0, 8], [2, 3, 18, 19])) (.ret)) (.seq (.reg 28 none [{ dst := some 162, guard := none, op := .bin (.eql) (.t 30) (.c (.int (.i64) 13)) }, { dst := some 161, guard := none, op := .asn true (.t 162) }] ([0, 1, 2, 3, 30, 161], [2, 3, 4, 5, 6, 7, 8, 9, 62, 63, 324, 325])) (.cond (.t 161) (.seq (.reg 29 none [{ dst := some 163, guard := none, op := .bsl 1 true 3 [.c (.int (.i64) 6), .c (.int (.i64) 7), .c (.int (.i64) 15)] }, { dst := some 164, guard := none, op := .mov (.t 0) }, { dst := some 165, guard := none, op := .call true (.f 14) [(some 2, .t 164), (none, .c (.int (.i64) 3))] }, { dst := some 166, guard := none, op := .idx 1 (.t 163) (.t 165) }, { dst := some 167, guard := none, op := .load none (.t 166) }, { dst := some 168, guard := none, op := .call true (.f 17) [(none, .t 167)] }, { dst := some 169, guard := none, op := .mov (.t 0) }, { dst := some 170, guard := none, op := .call true (.f 14) [(some 2, .t 169), (none, .c (.int (.i64) 3))] }, { dst := some 171, guard := none, op := .bin (.add) (.c (.int (.i64) 3)) (.t 170) }, { dst := some 172, guard := none, op := .call true (.f 28) [(none, .t 171), (none, .c (.int (.i64) 0))] }, { dst := some 173, guard := none, op := .bsl 5 true 2 [.t 168, .t 172] }, { dst := some 8, guard := none, op := .asn true (.t 173) }] ([0, 8], [2, 3, 18, 19])) (.ret)) (.seq (.seq (.reg 30 none [{ dst := some 175, guard := none, op := .bin (.eql) (.t 30) (.c (.int (.i64) 14)) }, { dst := some 174, guard := none, op := .asn true (.t 175) }] ([0, 1, 2, 3, 30, 174], [2, 3, 4, 5, 6, 7, 8, 9, 62, 63, 350, 351])) (.cond (.t 174) (.nrm ([0, 1, 2, 3, 30, 174], [2, 3, 4, 5, 6, 7, 8, 9, 62, 63, 350, 351])) (.reg 31 none [{ dst := some 176, guard := none, op := .bin (.eql) (.t 30) (.c (.int (.i64) 15)) }, { dst := some 174, guard := none, op := .asn true (.t 176) }] ([0, 1, 2, 3, 30, 174], [2, 3, 4, 5, 6, 7, 8, 9, 62, 63, 350, 351])))) (.cond (.t 174) (.seq (.reg 32 none [{ dst := some 177, guard := none, op := .mov (.t 0) }, { dst := some 178, guard := none, op := .call true (.f 14) [(some 2, .t 177), (none, .c (.int (.i64) 3))] }, { dst := some 179, guard := none, op := .call true (.f 16) [(none, .c (.int (.i64) 0)), (none, .t 178)] }, { dst := some 180, guard := none, op := .bsl 1 true 2 [.c (.int (.i64) 8), .c (.int (.i64) 9)] }, { dst := some 181, guard := none, op := .mov (.t 0) }, { dst := some 182, guard := none, op := .call true (.f 14) [(some 2, .t 181), (none, .c (.int (.i64) 2))] }, { dst := some 183, guard := none, op := .idx 1 (.t 180) (.t 182) }, { dst := some 184, guard := none, op := .load none (.t 183) }, { dst := some 185, guard := none, op := .call true (.f 17) [(none, .t 184)] }, { dst := some 186, guard := none, op := .bsl 5 true 2 [.t 179, .t 185] }, { dst := some 8, guard := none, op := .asn true (.t 186) }] ([0, 8], [2, 3, 18, 19])) (.ret)) (.seq (.reg 33 none [{ dst := some 188, guard := none, op := .bin (.eql) (.t 30) (.c (.int (.i64) 16)) }, { dst := some 187, guard := none, op := .asn true (.t 188) }] ([0, 1, 2, 3, 30, 187], [2, 3, 4, 5, 6, 7, 8, 9, 62, 63, 376, 377])) (.cond (.t 187) (.seq (.reg 34 none [{ dst := some 189, guard := none, op := .mov (.t 0) }, { dst := some 190, guard := none, op := .mov (.t 2) }, { dst := some 191, guard := none, op := .call true (.f 14) [(some 2, .t 189), (none, .t 190)] }, { dst := some 192, guard := none, op := .call true (.f 16) [(none, .c (.int (.i64) 0)), (none, .t 191)] }, { dst := some 193, guard := none, op := .call true (.f 28) [(none, .c (.int (.i64) 1)), (none, .c (.int (.i64) 3))] }, { dst := some 194, guard := none, op := .call true (.f 17) [(none, .c (.int (.i64) 10))] }, { dst := some 195, guard := none, op := .bsl 5 true 3 [.t 192, .t 193, .t 194] }, { dst := some 8, guard := none, op := .asn true (.t 195) }] ([0, 8], [2, 3, 18, 19])) (.ret)) (.seq (.reg 35 none [{ dst := some 197, guard := none, op := .bin (.eql) (.t 30) (.c (.int (.i64) 17)) }, { dst := some 196, guard := none, op := .asn true (.t 197) }] ([0, 1, 2, 3, 30, 196], [2, 3, 4, 5, 6, 7, 8, 9, 62, 63, 394, 395])) (.cond (.t 196) (.seq (.reg 36 none [{ dst := some 198, guard := none, op := .mov (.t 0) }, { dst := some 199, guard := none, op := .mov (.t 2) }, { dst := some 200, guard := none, op := .bsl 1 true 2 [.t 199, .c (.int (.i64) 5)] }, { dst := some 201, guard := none, op := .mov (.t 0) }, { dst := some 202, guard := none, op := .call true (.f 14) [(some 2, .t 201), (none, .c (.int (.i64) 2))] }, { dst := some 203, guard := none, op := .idx 1 (.t 200) (.t 202) }, { dst := some 204, guard := none, op := .load none (.t 203) }, { dst := some 205, guard := none, op := .call true (.f 14) [(some 2, .t 198), (none, .t 204)] }, { dst := some 206, guard := none, op := .call true (.f 16) [(none, .c (.int (.i64) 0)), (none, .t 205)] }, { dst := some 207, guard := none, op := .bsl 1 true 2 [.c (.int (.i64) 12), .c (.int (.i64) 11)] }, { dst := some 208, guard := none, op := .mov (.t 0) }, { dst := some 209, guard := none, op := .call true (.f 14) [(some 2, .t 208), (none, .c (.int (.i64) 2))] }, { dst := some 210, guard := none, op := .idx 1 (.t 207) (.t 209) }, { dst := some 211, guard := none, op := .load none (.t 210) }, { dst := some 212, guard := none, op := .call true (.f 17) [(none, .t 211)] }, { dst := some 213, guard := none, op := .bsl 5 true 2 [.t 206, .t 212] }, { dst := some 8, guard := none, op := .asn true (.t 213) }] ([0, 8], [2, 3, 18, 19])) (.ret)) (.seq (.reg 37 none [{ dst := some 215, guard := none, op := .bin (.eql) (.t 30) (.c (.int (.i64) 18)) }, { dst := some 214, guard := none, op := .asn true (.t 215) }] ([0, 1, 2, 3, 214], [2, 3, 4, 5, 6, 7, 8, 9, 430, 431])) (.cond (.t 214) (.seq (.reg 38 none [{ dst := some 216, guard := none, op := .mov (.t 0) }, { dst := some 217, guard := none, op := .call true (.f 14) [(some 2, .t 216), (none, .c (.int (.i64) 4))] }, { dst := some 218, guard := none, op := .bin (.add) (.c (.int (.i64) 1)) (.t 217) }, { dst := some 219, guard := none, op := .call true (.f 16) [(none, .c (.int (.i64) 5)), (none, .t 218)] }, { dst := some 220, guard := none, op := .call true (.f 16) [(none, .c (.int (.i64) 4)), (none, .c (.int (.i64) 1))] }, { dst := some 221, guard := none, op := .bld [.int (.i64) 0, .int (.i64) 0, .int (.i64) 0, .int (.i64) 0, .int (.i64) 0] true [(0, 1, .c (.int (.i64) 4)), (1, 1, .c (.int (.i64) 5)), (2, 1, .c (.int (.i64) 5)), (3, 1, .c (.int (.i64) 4))] }, { dst := some 222, guard := none, op := .mov (.t 3) }, { dst := some 223, guard := none, op := .bin (.add) (.t 222) (.c (.int (.i64) 2)) }, { dst := some 224, guard := none, op := .bld [.int (.i64) 0, .int (.i64) 0, .int (.i64) 0, .int (.i64) 0, .int (.i64) 0] true [(0, 1, .c (.int (.i64) 20)), (1, 1, .c (.int (.i64) 5)), (4, 1, .t 223)] }, { dst := some 225, guard := none, op := .bsl 5 true 4 [.t 219, .t 220, .t 221, .t 224] }, { dst := some 8, guard := none, op := .asn true (.t 225) }] ([0, 8], [2, 3, 18, 19])) (.ret)) (.skip))))))))))))))))))))))))))))))))
def partR : TCode := (.reg 39 none [{ dst := some 226, guard := none, op := .mov (.t 0) }, { dst := some 227, guard := none, op := .mov (.t 1) }, { dst := some 228, guard := none, op := .len (.t 227) }, { dst := some 229, guard := none, op := .mov (.t 2) }, { dst := some 230, guard := none, op := .call true (.f 29) [(some 2, .t 226), (none, .t 228), (none, .t 229)] }, { dst := some 231, guard := none, op := .bsl 5 true 1 [.t 230] }, { dst := some 8, guard := none, op := .asn true (.t 231) }] ([0, 8], [2, 3, 18, 19]))
def stP (D : List TV) (sizes : List Int) (most at_ r n v : Int) : St := ⟨[(0, .ptr ⟨2, 0, []⟩ [0]), (1, .sl (sizes.map encI)), (2, .v (.int .i64 most)), (3, .v (.int .i64 at_)), (9, .v (.int .i64 r)), (11, .pk ⟨25, 0, []⟩ [0, 0]), (30, .v (.int .i64 v))],
  [(2, D), (25, [.ow [encIn ⟨15, 1, 0, 0, r⟩, encIn ⟨1, 2, 0, 0, n⟩]])], []⟩
def stPr (D : List TV) (xs : List In) : St := ⟨[(0, .ptr ⟨2, 0, []⟩ [0]), (8, .pk ⟨19, 0, []⟩ [0, 0])], [(2, D), (19, [.ow (xs.map encIn)])], []⟩

def stP0 (D : List TV) (sizes : List Int) (most at_ : Int) : St := ⟨[(0, .ptr ⟨2, 0, []⟩ [0]), (1, .sl (sizes.map encI)), (2, .v (.int .i64 most)), (3, .v (.int .i64 at_)), (214, .v (.bool false))], [(2, D)], []⟩

structure PartOk (sizes : List Int) (most at_ r n : Int) : Prop where
  sz : ∀ x ∈ sizes, IsSize x
  most0 : 0 < most
  most1 : most ≤ 65536
  at0 : 0 ≤ at_
  at1 : at_ ≤ 60000
  r0 : 0 ≤ r
  r1 : r < sizes.length
  n0 : 0 ≤ n
  n1 : n < 5
  len : sizes.length ≤ 4
theorem PartOk.open {sizes : List Int} {most at_ r n : Int} (h : PartOk sizes most at_ r n) : ∃ s : Int, 0 < s ∧ s ≤ 32 ∧ realP.inb (sizes.map encI) r.toNat 1 = true ∧ realP.elt (sizes.map encI) r.toNat = [.v (.int .i64 s)] ∧ 0 < most ∧ most ≤ 65536 ∧ 0 ≤ at_ ∧ at_ ≤ 60000 ∧ 0 ≤ r ∧ r < 4 ∧ 0 ≤ n ∧ n < 5 := by
  have hr : r.toNat < sizes.length := by have := h.r0; have := h.r1; omega
  have hs := h.sz _ (List.getElem_mem hr)
  have := h.r1
  have := h.len
  exact ⟨sizes[r.toNat], by have := hs.1; omega, hs.2, inb_map hr rfl (by decide), elt_map hr, h.most0, h.most1, h.at0, h.at1, h.r0, by omega, h.n0, h.n1⟩
structure PartBox (box : FuncId → Option (Nat × List BxC)) : Prop where
  b1 : box 14 = none
  b2 : box 27 = none
  b3 : box 16 = none
  b4 : box 17 = none
  b5 : box 28 = none
  b6 : box 29 = none
structure PartF (F : Callee) : Prop where
  f1 : NextC F
  f2 : WordC F
  f3 : LiC F
  f4 : SysC F
  f5 : MovC F
  f6 : InstrC F
theorem nojump {op : Int} (h : op = 0 ∨ op = 1 ∨ op = 2 ∨ op = 4 ∨ op = 15 ∨ op = 16 ∨ op = 17 ∨ op = 23 ∨ op = 24) : jumpB op = false := by
  rcases h with rfl | rfl | rfl | rfl | rfl | rfl | rfl | rfl | rfl <;> kernel_rfl
theorem pick_lit (c : List Int) (u : Nat) (hu : u < c.length) (hc : c.all (fun x => decide (0 ≤ x) && decide (x ≤ 24) && !jumpB x) = true) : ∃ m, 0 ≤ m ∧ m ≤ 24 ∧ jumpB m = false ∧ realP.inb (c.map encI) u 1 = true ∧ realP.getC (c.map encI) (u, 1, 0) [] = some (.v (.int .i64 m)) := by
  have h := List.all_eq_true.1 hc _ (List.getElem_mem hu)
  simp only [Bool.and_eq_true, decide_eq_true_eq, Bool.not_eq_true'] at h
  refine ⟨c[u], h.1.1, h.1.2, h.2, inb_map hu rfl (by decide), ?_⟩
  show getT (.ow (c.map encI)) [(u, 1, 0)] = _
  simp [getT, hu, encI]
theorem pick_two (a b : Int) (u : Nat) (hu : u < 2) (ha : 0 < a ∧ a ≤ 65536) (hb : 0 < b ∧ b ≤ 65536) : ∃ m, 0 < m ∧ m ≤ 65536 ∧ realP.inb [[.v (.int .i64 a)], [.v (.int .i64 b)]] u 1 = true ∧ realP.getC [[.v (.int .i64 a)], [.v (.int .i64 b)]] (u, 1, 0) [] = some (.v (.int .i64 m)) := by
  obtain rfl | rfl : u = 0 ∨ u = 1 := by omega
  · exact ⟨a, ha.1, ha.2, rfl, rfl⟩
  · exact ⟨b, hb.1, hb.2, rfl, rfl⟩

section
variable (box : FuncId → Option (Nat × List BxC)) (ps : FuncId → List (Option Nat)) (F : Callee) (N : Nat)
set_option maxRecDepth 100000 in
set_option maxHeartbeats 8000000 in
theorem part_0 (hb : PartBox box) (hF : PartF F) (l k) (hd : DeckOk l k) (sizes : List Int) (most at_ r n : Int) (ctx : PartOk sizes most at_ r n) : ∃ xs k', DeckOk l k' ∧ (∀ x ∈ xs, OkIn x ∧ (jumpB x.op = true → x.imm < at_ + xs.length)) ∧ xs.length ≤ 6 ∧
    S.runC realP (S.evCall realP ⟨box, ps⟩ F) N partB (stP (encD l k) sizes most at_ r n 0) = some (.ret, stPr (encD l k') xs) := by
  obtain ⟨hb1, hb2, hb3, hb4, hb5, hb6⟩ := hb
  obtain ⟨hN, hW, hLi, hSys, hMov, hIn⟩ := hF
  obtain ⟨s, hs0, hs1, hinb, helt, hm0, hm1, ha0, ha1, hr0, hr1, hn0, hn1⟩ := ctx.open
  unfold LiC at hLi
  unfold SysC at hSys
  unfold MovC at hMov
  have heq : ∀ a b : Int, realP.cm .eql a b = (a == b) := fun _ _ => rfl
  obtain ⟨x, k1, h1, hd1, x0, x1⟩ := hN l k 3 hd (by first | decide | omega) (by first | decide | omega)
  obtain ⟨w, k2, h2, hd2, w0, w1⟩ := hW l k1 hd1
  have hcv : realP.cv .i64 w = w := wrap_i64 (by omega) (by omega)
  refine ⟨[⟨1, (realP.ar .add .i64 3 x), 0, 0, realP.cv .i64 w⟩], k2, hd2, ?_, by simp, ?_⟩
  · intro x hx
    simp only [List.mem_cons, List.not_mem_nil, or_false] at hx
    rcases hx with rfl
    all_goals refine ⟨⟨by dsimp only; omega, by dsimp only; omega, by dsimp only; omega, by dsimp only; omega⟩, fun hj => ?_⟩
    all_goals dsimp only at hj ⊢
    all_goals first | (exact absurd hj (by rw [nojump (by decide)]; decide)) | (exact absurd hj (by rw [xj]; decide)) | (simp only [List.length_cons, List.length_nil]; omega)
  · simp only [stP, stPr, encD, encI, encIn, List.map_cons, List.map_nil] at *
    generalize l.map encI = D at *
    generalize sizes.map encI = Z at *
    generalize (k : Int) = ik at *
    generalize (k1 : Int) = ik1 at *
    generalize (k2 : Int) = ik2 at *
    (generalize realP = Pr at *; obtain ⟨ar, cm, sh, sb, un, cv, natI, lenN, inb, inw, elt, addN, subN, slOk, win, immC, immW, allLen, appOk, cat, mkOk, rep, getC, setC, shC, eqf, eqB, notB, fmm, strAt, strLen, strB, strOk, bstr, cpy, it⟩ := Pr; try dsimp only at *)
    ((repeat (cbv; first | done | rw [hb1] | rw [hb2] | rw [hb3] | rw [hb4] | rw [hb5] | rw [heq] | rw [hLi] | rw [hSys] | rw [hMov] | rw [h1] | rw [h2])); try cbv)
set_option maxRecDepth 100000 in
set_option maxHeartbeats 8000000 in
theorem part_1 (hb : PartBox box) (hF : PartF F) (l k) (hd : DeckOk l k) (sizes : List Int) (most at_ r n : Int) (ctx : PartOk sizes most at_ r n) : ∃ xs k', DeckOk l k' ∧ (∀ x ∈ xs, OkIn x ∧ (jumpB x.op = true → x.imm < at_ + xs.length)) ∧ xs.length ≤ 6 ∧
    S.runC realP (S.evCall realP ⟨box, ps⟩ F) N partB (stP (encD l k) sizes most at_ r n 1) = some (.ret, stPr (encD l k') xs) := by
  obtain ⟨hb1, hb2, hb3, hb4, hb5, hb6⟩ := hb
  obtain ⟨hN, hW, hLi, hSys, hMov, hIn⟩ := hF
  obtain ⟨s, hs0, hs1, hinb, helt, hm0, hm1, ha0, ha1, hr0, hr1, hn0, hn1⟩ := ctx.open
  unfold LiC at hLi
  unfold SysC at hSys
  unfold MovC at hMov
  have heq : ∀ a b : Int, realP.cm .eql a b = (a == b) := fun _ _ => rfl
  obtain ⟨u1, k1, h1, hd1, v0, v1⟩ := hN l k 8 hd (by decide) (by decide)
  obtain ⟨u1, rfl⟩ : ∃ u' : Nat, u1 = .ofNat u' := ⟨u1.toNat, by simp only [Int.ofNat_eq_natCast]; omega⟩
  obtain ⟨x, x0, x1, xj, hin1, hg1⟩ := pick_lit [3, 4, 5, 10, 13, 14, 11, 9] u1 (by simp only [Int.ofNat_eq_natCast] at v1; simp only [List.length_cons, List.length_nil]; omega) (by kernel_rfl)
  simp only [List.map_cons, List.map_nil, encI] at hin1 hg1
  obtain ⟨y, k2, h2, hd2, y0, y1⟩ := hN l k1 3 hd1 (by first | decide | omega) (by first | decide | omega)
  obtain ⟨z, k3, h3, hd3, z0, z1⟩ := hN l k2 3 hd2 (by first | decide | omega) (by first | decide | omega)
  obtain ⟨t, k4, h4, hd4, t0, t1⟩ := hN l k3 3 hd3 (by first | decide | omega) (by first | decide | omega)
  have hx := x1
  refine ⟨[⟨x, (realP.ar .add .i64 3 y), (realP.ar .add .i64 3 z), (realP.ar .add .i64 3 t), 0⟩], k4, hd4, ?_, by simp, ?_⟩
  · intro x hx
    simp only [List.mem_cons, List.not_mem_nil, or_false] at hx
    rcases hx with rfl
    all_goals refine ⟨⟨by dsimp only; omega, by dsimp only; omega, by dsimp only; omega, by dsimp only; omega⟩, fun hj => ?_⟩
    all_goals dsimp only at hj ⊢
    all_goals first | (exact absurd hj (by rw [nojump (by decide)]; decide)) | (exact absurd hj (by rw [xj]; decide)) | (simp only [List.length_cons, List.length_nil]; omega)
  · simp only [stP, stPr, encD, encI, encIn, List.map_cons, List.map_nil] at *
    generalize l.map encI = D at *
    generalize sizes.map encI = Z at *
    generalize (k : Int) = ik at *
    generalize (k1 : Int) = ik1 at *
    generalize (k2 : Int) = ik2 at *
    generalize (k3 : Int) = ik3 at *
    generalize (k4 : Int) = ik4 at *
    (generalize realP = Pr at *; obtain ⟨ar, cm, sh, sb, un, cv, natI, lenN, inb, inw, elt, addN, subN, slOk, win, immC, immW, allLen, appOk, cat, mkOk, rep, getC, setC, shC, eqf, eqB, notB, fmm, strAt, strLen, strB, strOk, bstr, cpy, it⟩ := Pr; try dsimp only at *)
    ((repeat (cbv; first | done | rw [hb1] | rw [hb2] | rw [hb3] | rw [hb4] | rw [hb5] | rw [heq] | rw [hLi] | rw [hSys] | rw [hMov] | rw [h1] | rw [if_pos hin1] | rw [hg1] | rw [h2] | rw [h3] | rw [h4])); try cbv)
set_option maxRecDepth 100000 in
set_option maxHeartbeats 8000000 in
theorem part_2 (hb : PartBox box) (hF : PartF F) (l k) (hd : DeckOk l k) (sizes : List Int) (most at_ r n : Int) (ctx : PartOk sizes most at_ r n) : ∃ xs k', DeckOk l k' ∧ (∀ x ∈ xs, OkIn x ∧ (jumpB x.op = true → x.imm < at_ + xs.length)) ∧ xs.length ≤ 6 ∧
    S.runC realP (S.evCall realP ⟨box, ps⟩ F) N partB (stP (encD l k) sizes most at_ r n 2) = some (.ret, stPr (encD l k') xs) := by
  obtain ⟨hb1, hb2, hb3, hb4, hb5, hb6⟩ := hb
  obtain ⟨hN, hW, hLi, hSys, hMov, hIn⟩ := hF
  obtain ⟨s, hs0, hs1, hinb, helt, hm0, hm1, ha0, ha1, hr0, hr1, hn0, hn1⟩ := ctx.open
  unfold LiC at hLi
  unfold SysC at hSys
  unfold MovC at hMov
  have heq : ∀ a b : Int, realP.cm .eql a b = (a == b) := fun _ _ => rfl
  refine ⟨[⟨15, 6, 0, 0, r⟩], k, hd, ?_, by simp, ?_⟩
  · intro x hx
    simp only [List.mem_cons, List.not_mem_nil, or_false] at hx
    rcases hx with rfl
    all_goals refine ⟨⟨by dsimp only; omega, by dsimp only; omega, by dsimp only; omega, by dsimp only; omega⟩, fun hj => ?_⟩
    all_goals dsimp only at hj ⊢
    all_goals first | (exact absurd hj (by rw [nojump (by decide)]; decide)) | (exact absurd hj (by rw [xj]; decide)) | (simp only [List.length_cons, List.length_nil]; omega)
  · simp only [stP, stPr, encD, encI, encIn, List.map_cons, List.map_nil] at *
    generalize l.map encI = D at *
    generalize sizes.map encI = Z at *
    generalize (k : Int) = ik at *
    (generalize realP = Pr at *; obtain ⟨ar, cm, sh, sb, un, cv, natI, lenN, inb, inw, elt, addN, subN, slOk, win, immC, immW, allLen, appOk, cat, mkOk, rep, getC, setC, shC, eqf, eqB, notB, fmm, strAt, strLen, strB, strOk, bstr, cpy, it⟩ := Pr; try dsimp only at *)
    ((repeat (cbv; first | done | rw [hb1] | rw [hb2] | rw [hb3] | rw [hb4] | rw [hb5] | rw [heq] | rw [hLi] | rw [hSys] | rw [hMov])); try cbv)
set_option maxRecDepth 100000 in
set_option maxHeartbeats 8000000 in
theorem part_3 (hb : PartBox box) (hF : PartF F) (l k) (hd : DeckOk l k) (sizes : List Int) (most at_ r n : Int) (ctx : PartOk sizes most at_ r n) : ∃ xs k', DeckOk l k' ∧ (∀ x ∈ xs, OkIn x ∧ (jumpB x.op = true → x.imm < at_ + xs.length)) ∧ xs.length ≤ 6 ∧
    S.runC realP (S.evCall realP ⟨box, ps⟩ F) N partB (stP (encD l k) sizes most at_ r n 3) = some (.ret, stPr (encD l k') xs) := by
  obtain ⟨hb1, hb2, hb3, hb4, hb5, hb6⟩ := hb
  obtain ⟨hN, hW, hLi, hSys, hMov, hIn⟩ := hF
  obtain ⟨s, hs0, hs1, hinb, helt, hm0, hm1, ha0, ha1, hr0, hr1, hn0, hn1⟩ := ctx.open
  unfold LiC at hLi
  unfold SysC at hSys
  unfold MovC at hMov
  have heq : ∀ a b : Int, realP.cm .eql a b = (a == b) := fun _ _ => rfl
  obtain ⟨x, k1, h1, hd1, x0, x1⟩ := hN l k 5 hd (by first | decide | omega) (by first | decide | omega)
  obtain ⟨y, k2, h2, hd2, y0, y1⟩ := hN l k1 s hd1 (by omega) (by omega)
  obtain ⟨r, rfl⟩ : ∃ r' : Nat, r = (r' : Int) := ⟨r.toNat, by omega⟩
  have hinb' : realP.inb (sizes.map encI) r 1 = true := hinb
  have helt' : realP.elt (sizes.map encI) r = [.v (.int .i64 s)] := helt
  clear hinb helt
  refine ⟨[⟨15, 6, 0, 0, r⟩, ⟨17, 6, (realP.ar .add .i64 3 x), 0, y⟩], k2, hd2, ?_, by simp, ?_⟩
  · intro x hx
    simp only [List.mem_cons, List.not_mem_nil, or_false] at hx
    rcases hx with rfl | rfl
    all_goals refine ⟨⟨by dsimp only; omega, by dsimp only; omega, by dsimp only; omega, by dsimp only; omega⟩, fun hj => ?_⟩
    all_goals dsimp only at hj ⊢
    all_goals first | (exact absurd hj (by rw [nojump (by decide)]; decide)) | (exact absurd hj (by rw [xj]; decide)) | (simp only [List.length_cons, List.length_nil]; omega)
  · simp only [stP, stPr, encD, encI, encIn, List.map_cons, List.map_nil] at *
    generalize l.map encI = D at *
    generalize sizes.map encI = Z at *
    generalize (k : Int) = ik at *
    generalize (k1 : Int) = ik1 at *
    generalize (k2 : Int) = ik2 at *
    (generalize realP = Pr at *; obtain ⟨ar, cm, sh, sb, un, cv, natI, lenN, inb, inw, elt, addN, subN, slOk, win, immC, immW, allLen, appOk, cat, mkOk, rep, getC, setC, shC, eqf, eqB, notB, fmm, strAt, strLen, strB, strOk, bstr, cpy, it⟩ := Pr; try dsimp only at *)
    ((repeat (cbv; first | done | rw [hb1] | rw [hb2] | rw [hb3] | rw [hb4] | rw [hb5] | rw [heq] | rw [hLi] | rw [hSys] | rw [hMov] | rw [h1] | rw [h2] | rw [if_pos hinb'] | rw [helt'])); try cbv)
set_option maxRecDepth 100000 in
set_option maxHeartbeats 8000000 in
theorem part_4 (hb : PartBox box) (hF : PartF F) (l k) (hd : DeckOk l k) (sizes : List Int) (most at_ r n : Int) (ctx : PartOk sizes most at_ r n) : ∃ xs k', DeckOk l k' ∧ (∀ x ∈ xs, OkIn x ∧ (jumpB x.op = true → x.imm < at_ + xs.length)) ∧ xs.length ≤ 6 ∧
    S.runC realP (S.evCall realP ⟨box, ps⟩ F) N partB (stP (encD l k) sizes most at_ r n 4) = some (.ret, stPr (encD l k') xs) := by
  obtain ⟨hb1, hb2, hb3, hb4, hb5, hb6⟩ := hb
  obtain ⟨hN, hW, hLi, hSys, hMov, hIn⟩ := hF
  obtain ⟨s, hs0, hs1, hinb, helt, hm0, hm1, ha0, ha1, hr0, hr1, hn0, hn1⟩ := ctx.open
  unfold LiC at hLi
  unfold SysC at hSys
  unfold MovC at hMov
  have heq : ∀ a b : Int, realP.cm .eql a b = (a == b) := fun _ _ => rfl
  obtain ⟨x, k1, h1, hd1, x0, x1⟩ := hN l k 5 hd (by first | decide | omega) (by first | decide | omega)
  obtain ⟨y, k2, h2, hd2, y0, y1⟩ := hN l k1 s hd1 (by omega) (by omega)
  obtain ⟨r, rfl⟩ : ∃ r' : Nat, r = (r' : Int) := ⟨r.toNat, by omega⟩
  have hinb' : realP.inb (sizes.map encI) r 1 = true := hinb
  have helt' : realP.elt (sizes.map encI) r = [.v (.int .i64 s)] := helt
  clear hinb helt
  refine ⟨[⟨15, 6, 0, 0, r⟩, ⟨17, 6, (realP.ar .add .i64 3 x), 0, y⟩], k2, hd2, ?_, by simp, ?_⟩
  · intro x hx
    simp only [List.mem_cons, List.not_mem_nil, or_false] at hx
    rcases hx with rfl | rfl
    all_goals refine ⟨⟨by dsimp only; omega, by dsimp only; omega, by dsimp only; omega, by dsimp only; omega⟩, fun hj => ?_⟩
    all_goals dsimp only at hj ⊢
    all_goals first | (exact absurd hj (by rw [nojump (by decide)]; decide)) | (exact absurd hj (by rw [xj]; decide)) | (simp only [List.length_cons, List.length_nil]; omega)
  · simp only [stP, stPr, encD, encI, encIn, List.map_cons, List.map_nil] at *
    generalize l.map encI = D at *
    generalize sizes.map encI = Z at *
    generalize (k : Int) = ik at *
    generalize (k1 : Int) = ik1 at *
    generalize (k2 : Int) = ik2 at *
    (generalize realP = Pr at *; obtain ⟨ar, cm, sh, sb, un, cv, natI, lenN, inb, inw, elt, addN, subN, slOk, win, immC, immW, allLen, appOk, cat, mkOk, rep, getC, setC, shC, eqf, eqB, notB, fmm, strAt, strLen, strB, strOk, bstr, cpy, it⟩ := Pr; try dsimp only at *)
    ((repeat (cbv; first | done | rw [hb1] | rw [hb2] | rw [hb3] | rw [hb4] | rw [hb5] | rw [heq] | rw [hLi] | rw [hSys] | rw [hMov] | rw [h1] | rw [h2] | rw [if_pos hinb'] | rw [helt'])); try cbv)
set_option maxRecDepth 100000 in
set_option maxHeartbeats 8000000 in
theorem part_5 (hb : PartBox box) (hF : PartF F) (l k) (hd : DeckOk l k) (sizes : List Int) (most at_ r n : Int) (ctx : PartOk sizes most at_ r n) : ∃ xs k', DeckOk l k' ∧ (∀ x ∈ xs, OkIn x ∧ (jumpB x.op = true → x.imm < at_ + xs.length)) ∧ xs.length ≤ 6 ∧
    S.runC realP (S.evCall realP ⟨box, ps⟩ F) N partB (stP (encD l k) sizes most at_ r n 5) = some (.ret, stPr (encD l k') xs) := by
  obtain ⟨hb1, hb2, hb3, hb4, hb5, hb6⟩ := hb
  obtain ⟨hN, hW, hLi, hSys, hMov, hIn⟩ := hF
  obtain ⟨s, hs0, hs1, hinb, helt, hm0, hm1, ha0, ha1, hr0, hr1, hn0, hn1⟩ := ctx.open
  unfold LiC at hLi
  unfold SysC at hSys
  unfold MovC at hMov
  have heq : ∀ a b : Int, realP.cm .eql a b = (a == b) := fun _ _ => rfl
  obtain ⟨x, k1, h1, hd1, x0, x1⟩ := hN l k 4 hd (by first | decide | omega) (by first | decide | omega)
  obtain ⟨y, k2, h2, hd2, y0, y1⟩ := hN l k1 s hd1 (by omega) (by omega)
  obtain ⟨r, rfl⟩ : ∃ r' : Nat, r = (r' : Int) := ⟨r.toNat, by omega⟩
  have hinb' : realP.inb (sizes.map encI) r 1 = true := hinb
  have helt' : realP.elt (sizes.map encI) r = [.v (.int .i64 s)] := helt
  clear hinb helt
  refine ⟨[⟨15, 6, 0, 0, r⟩, ⟨16, (realP.ar .add .i64 3 x), 6, 0, y⟩], k2, hd2, ?_, by simp, ?_⟩
  · intro x hx
    simp only [List.mem_cons, List.not_mem_nil, or_false] at hx
    rcases hx with rfl | rfl
    all_goals refine ⟨⟨by dsimp only; omega, by dsimp only; omega, by dsimp only; omega, by dsimp only; omega⟩, fun hj => ?_⟩
    all_goals dsimp only at hj ⊢
    all_goals first | (exact absurd hj (by rw [nojump (by decide)]; decide)) | (exact absurd hj (by rw [xj]; decide)) | (simp only [List.length_cons, List.length_nil]; omega)
  · simp only [stP, stPr, encD, encI, encIn, List.map_cons, List.map_nil] at *
    generalize l.map encI = D at *
    generalize sizes.map encI = Z at *
    generalize (k : Int) = ik at *
    generalize (k1 : Int) = ik1 at *
    generalize (k2 : Int) = ik2 at *
    (generalize realP = Pr at *; obtain ⟨ar, cm, sh, sb, un, cv, natI, lenN, inb, inw, elt, addN, subN, slOk, win, immC, immW, allLen, appOk, cat, mkOk, rep, getC, setC, shC, eqf, eqB, notB, fmm, strAt, strLen, strB, strOk, bstr, cpy, it⟩ := Pr; try dsimp only at *)
    ((repeat (cbv; first | done | rw [hb1] | rw [hb2] | rw [hb3] | rw [hb4] | rw [hb5] | rw [heq] | rw [hLi] | rw [hSys] | rw [hMov] | rw [h1] | rw [h2] | rw [if_pos hinb'] | rw [helt'])); try cbv)
set_option maxRecDepth 100000 in
set_option maxHeartbeats 8000000 in
theorem part_6 (hb : PartBox box) (hF : PartF F) (l k) (hd : DeckOk l k) (sizes : List Int) (most at_ r n : Int) (ctx : PartOk sizes most at_ r n) : ∃ xs k', DeckOk l k' ∧ (∀ x ∈ xs, OkIn x ∧ (jumpB x.op = true → x.imm < at_ + xs.length)) ∧ xs.length ≤ 6 ∧
    S.runC realP (S.evCall realP ⟨box, ps⟩ F) N partB (stP (encD l k) sizes most at_ r n 6) = some (.ret, stPr (encD l k') xs) := by
  obtain ⟨hb1, hb2, hb3, hb4, hb5, hb6⟩ := hb
  obtain ⟨hN, hW, hLi, hSys, hMov, hIn⟩ := hF
  obtain ⟨s, hs0, hs1, hinb, helt, hm0, hm1, ha0, ha1, hr0, hr1, hn0, hn1⟩ := ctx.open
  unfold LiC at hLi
  unfold SysC at hSys
  unfold MovC at hMov
  have heq : ∀ a b : Int, realP.cm .eql a b = (a == b) := fun _ _ => rfl
  obtain ⟨x, k1, h1, hd1, x0, x1⟩ := hN l k 4 hd (by first | decide | omega) (by first | decide | omega)
  obtain ⟨y, k2, h2, hd2, y0, y1⟩ := hN l k1 s hd1 (by omega) (by omega)
  obtain ⟨r, rfl⟩ : ∃ r' : Nat, r = (r' : Int) := ⟨r.toNat, by omega⟩
  have hinb' : realP.inb (sizes.map encI) r 1 = true := hinb
  have helt' : realP.elt (sizes.map encI) r = [.v (.int .i64 s)] := helt
  clear hinb helt
  refine ⟨[⟨15, 6, 0, 0, r⟩, ⟨16, (realP.ar .add .i64 3 x), 6, 0, y⟩], k2, hd2, ?_, by simp, ?_⟩
  · intro x hx
    simp only [List.mem_cons, List.not_mem_nil, or_false] at hx
    rcases hx with rfl | rfl
    all_goals refine ⟨⟨by dsimp only; omega, by dsimp only; omega, by dsimp only; omega, by dsimp only; omega⟩, fun hj => ?_⟩
    all_goals dsimp only at hj ⊢
    all_goals first | (exact absurd hj (by rw [nojump (by decide)]; decide)) | (exact absurd hj (by rw [xj]; decide)) | (simp only [List.length_cons, List.length_nil]; omega)
  · simp only [stP, stPr, encD, encI, encIn, List.map_cons, List.map_nil] at *
    generalize l.map encI = D at *
    generalize sizes.map encI = Z at *
    generalize (k : Int) = ik at *
    generalize (k1 : Int) = ik1 at *
    generalize (k2 : Int) = ik2 at *
    (generalize realP = Pr at *; obtain ⟨ar, cm, sh, sb, un, cv, natI, lenN, inb, inw, elt, addN, subN, slOk, win, immC, immW, allLen, appOk, cat, mkOk, rep, getC, setC, shC, eqf, eqB, notB, fmm, strAt, strLen, strB, strOk, bstr, cpy, it⟩ := Pr; try dsimp only at *)
    ((repeat (cbv; first | done | rw [hb1] | rw [hb2] | rw [hb3] | rw [hb4] | rw [hb5] | rw [heq] | rw [hLi] | rw [hSys] | rw [hMov] | rw [h1] | rw [h2] | rw [if_pos hinb'] | rw [helt'])); try cbv)
set_option maxRecDepth 100000 in
set_option maxHeartbeats 8000000 in
theorem part_7 (hb : PartBox box) (hF : PartF F) (l k) (hd : DeckOk l k) (sizes : List Int) (most at_ r n : Int) (ctx : PartOk sizes most at_ r n) : ∃ xs k', DeckOk l k' ∧ (∀ x ∈ xs, OkIn x ∧ (jumpB x.op = true → x.imm < at_ + xs.length)) ∧ xs.length ≤ 6 ∧
    S.runC realP (S.evCall realP ⟨box, ps⟩ F) N partB (stP (encD l k) sizes most at_ r n 7) = some (.ret, stPr (encD l k') xs) := by
  obtain ⟨hb1, hb2, hb3, hb4, hb5, hb6⟩ := hb
  obtain ⟨hN, hW, hLi, hSys, hMov, hIn⟩ := hF
  obtain ⟨s, hs0, hs1, hinb, helt, hm0, hm1, ha0, ha1, hr0, hr1, hn0, hn1⟩ := ctx.open
  unfold LiC at hLi
  unfold SysC at hSys
  unfold MovC at hMov
  have heq : ∀ a b : Int, realP.cm .eql a b = (a == b) := fun _ _ => rfl
  obtain ⟨x, k1, h1, hd1, x0, x1⟩ := hN l k 3 hd (by first | decide | omega) (by first | decide | omega)
  have hok0 : realP.appOk 5 40 [encIn ⟨1, 0, 0, 0, x⟩] [encIn ⟨15, 1, 0, 0, r⟩, encIn ⟨1, 2, 0, 0, n⟩] = true := rfl
  have hcat0 : realP.cat [encIn ⟨1, 0, 0, 0, x⟩] [encIn ⟨15, 1, 0, 0, r⟩, encIn ⟨1, 2, 0, 0, n⟩] = [encIn ⟨1, 0, 0, 0, x⟩, encIn ⟨15, 1, 0, 0, r⟩, encIn ⟨1, 2, 0, 0, n⟩] := rfl
  have hok1 : realP.appOk 5 40 [encIn ⟨1, 0, 0, 0, x⟩, encIn ⟨15, 1, 0, 0, r⟩, encIn ⟨1, 2, 0, 0, n⟩] [encIn ⟨23, 0, 0, 0, 13⟩] = true := rfl
  have hcat1 : realP.cat [encIn ⟨1, 0, 0, 0, x⟩, encIn ⟨15, 1, 0, 0, r⟩, encIn ⟨1, 2, 0, 0, n⟩] [encIn ⟨23, 0, 0, 0, 13⟩] = [encIn ⟨1, 0, 0, 0, x⟩, encIn ⟨15, 1, 0, 0, r⟩, encIn ⟨1, 2, 0, 0, n⟩, encIn ⟨23, 0, 0, 0, 13⟩] := rfl
  refine ⟨[⟨1, 0, 0, 0, x⟩, ⟨15, 1, 0, 0, r⟩, ⟨1, 2, 0, 0, n⟩, ⟨23, 0, 0, 0, 13⟩], k1, hd1, ?_, by simp, ?_⟩
  · intro x hx
    simp only [List.mem_cons, List.not_mem_nil, or_false] at hx
    rcases hx with rfl | rfl | rfl | rfl
    all_goals refine ⟨⟨by dsimp only; omega, by dsimp only; omega, by dsimp only; omega, by dsimp only; omega⟩, fun hj => ?_⟩
    all_goals dsimp only at hj ⊢
    all_goals first | (exact absurd hj (by rw [nojump (by decide)]; decide)) | (exact absurd hj (by rw [xj]; decide)) | (simp only [List.length_cons, List.length_nil]; omega)
  · simp only [stP, stPr, encD, encI, encIn, List.map_cons, List.map_nil] at *
    generalize l.map encI = D at *
    generalize sizes.map encI = Z at *
    generalize (k : Int) = ik at *
    generalize (k1 : Int) = ik1 at *
    (generalize realP = Pr at *; obtain ⟨ar, cm, sh, sb, un, cv, natI, lenN, inb, inw, elt, addN, subN, slOk, win, immC, immW, allLen, appOk, cat, mkOk, rep, getC, setC, shC, eqf, eqB, notB, fmm, strAt, strLen, strB, strOk, bstr, cpy, it⟩ := Pr; try dsimp only at *)
    ((repeat (cbv; first | done | rw [hb1] | rw [hb2] | rw [hb3] | rw [hb4] | rw [hb5] | rw [heq] | rw [hLi] | rw [hSys] | rw [hMov] | rw [h1] | rw [if_pos hok0] | rw [hcat0] | rw [if_pos hok1] | rw [hcat1])); try cbv)
set_option maxRecDepth 100000 in
set_option maxHeartbeats 8000000 in
theorem part_8 (hb : PartBox box) (hF : PartF F) (l k) (hd : DeckOk l k) (sizes : List Int) (most at_ r n : Int) (ctx : PartOk sizes most at_ r n) : ∃ xs k', DeckOk l k' ∧ (∀ x ∈ xs, OkIn x ∧ (jumpB x.op = true → x.imm < at_ + xs.length)) ∧ xs.length ≤ 6 ∧
    S.runC realP (S.evCall realP ⟨box, ps⟩ F) N partB (stP (encD l k) sizes most at_ r n 8) = some (.ret, stPr (encD l k') xs) := by
  obtain ⟨hb1, hb2, hb3, hb4, hb5, hb6⟩ := hb
  obtain ⟨hN, hW, hLi, hSys, hMov, hIn⟩ := hF
  obtain ⟨s, hs0, hs1, hinb, helt, hm0, hm1, ha0, ha1, hr0, hr1, hn0, hn1⟩ := ctx.open
  unfold LiC at hLi
  unfold SysC at hSys
  unfold MovC at hMov
  have heq : ∀ a b : Int, realP.cm .eql a b = (a == b) := fun _ _ => rfl
  obtain ⟨x, k1, h1, hd1, x0, x1⟩ := hN l k 3 hd (by first | decide | omega) (by first | decide | omega)
  have hok0 : realP.appOk 5 40 [encIn ⟨1, 0, 0, 0, x⟩] [encIn ⟨15, 1, 0, 0, r⟩, encIn ⟨1, 2, 0, 0, n⟩] = true := rfl
  have hcat0 : realP.cat [encIn ⟨1, 0, 0, 0, x⟩] [encIn ⟨15, 1, 0, 0, r⟩, encIn ⟨1, 2, 0, 0, n⟩] = [encIn ⟨1, 0, 0, 0, x⟩, encIn ⟨15, 1, 0, 0, r⟩, encIn ⟨1, 2, 0, 0, n⟩] := rfl
  have hok1 : realP.appOk 5 40 [encIn ⟨1, 0, 0, 0, x⟩, encIn ⟨15, 1, 0, 0, r⟩, encIn ⟨1, 2, 0, 0, n⟩] [encIn ⟨23, 0, 0, 0, 13⟩] = true := rfl
  have hcat1 : realP.cat [encIn ⟨1, 0, 0, 0, x⟩, encIn ⟨15, 1, 0, 0, r⟩, encIn ⟨1, 2, 0, 0, n⟩] [encIn ⟨23, 0, 0, 0, 13⟩] = [encIn ⟨1, 0, 0, 0, x⟩, encIn ⟨15, 1, 0, 0, r⟩, encIn ⟨1, 2, 0, 0, n⟩, encIn ⟨23, 0, 0, 0, 13⟩] := rfl
  refine ⟨[⟨1, 0, 0, 0, x⟩, ⟨15, 1, 0, 0, r⟩, ⟨1, 2, 0, 0, n⟩, ⟨23, 0, 0, 0, 13⟩], k1, hd1, ?_, by simp, ?_⟩
  · intro x hx
    simp only [List.mem_cons, List.not_mem_nil, or_false] at hx
    rcases hx with rfl | rfl | rfl | rfl
    all_goals refine ⟨⟨by dsimp only; omega, by dsimp only; omega, by dsimp only; omega, by dsimp only; omega⟩, fun hj => ?_⟩
    all_goals dsimp only at hj ⊢
    all_goals first | (exact absurd hj (by rw [nojump (by decide)]; decide)) | (exact absurd hj (by rw [xj]; decide)) | (simp only [List.length_cons, List.length_nil]; omega)
  · simp only [stP, stPr, encD, encI, encIn, List.map_cons, List.map_nil] at *
    generalize l.map encI = D at *
    generalize sizes.map encI = Z at *
    generalize (k : Int) = ik at *
    generalize (k1 : Int) = ik1 at *
    (generalize realP = Pr at *; obtain ⟨ar, cm, sh, sb, un, cv, natI, lenN, inb, inw, elt, addN, subN, slOk, win, immC, immW, allLen, appOk, cat, mkOk, rep, getC, setC, shC, eqf, eqB, notB, fmm, strAt, strLen, strB, strOk, bstr, cpy, it⟩ := Pr; try dsimp only at *)
    ((repeat (cbv; first | done | rw [hb1] | rw [hb2] | rw [hb3] | rw [hb4] | rw [hb5] | rw [heq] | rw [hLi] | rw [hSys] | rw [hMov] | rw [h1] | rw [if_pos hok0] | rw [hcat0] | rw [if_pos hok1] | rw [hcat1])); try cbv)
set_option maxRecDepth 100000 in
set_option maxHeartbeats 8000000 in
theorem part_9 (hb : PartBox box) (hF : PartF F) (l k) (hd : DeckOk l k) (sizes : List Int) (most at_ r n : Int) (ctx : PartOk sizes most at_ r n) : ∃ xs k', DeckOk l k' ∧ (∀ x ∈ xs, OkIn x ∧ (jumpB x.op = true → x.imm < at_ + xs.length)) ∧ xs.length ≤ 6 ∧
    S.runC realP (S.evCall realP ⟨box, ps⟩ F) N partB (stP (encD l k) sizes most at_ r n 9) = some (.ret, stPr (encD l k') xs) := by
  obtain ⟨hb1, hb2, hb3, hb4, hb5, hb6⟩ := hb
  obtain ⟨hN, hW, hLi, hSys, hMov, hIn⟩ := hF
  obtain ⟨s, hs0, hs1, hinb, helt, hm0, hm1, ha0, ha1, hr0, hr1, hn0, hn1⟩ := ctx.open
  unfold LiC at hLi
  unfold SysC at hSys
  unfold MovC at hMov
  have heq : ∀ a b : Int, realP.cm .eql a b = (a == b) := fun _ _ => rfl
  obtain ⟨x, k1, h1, hd1, x0, x1⟩ := hN l k 3 hd (by first | decide | omega) (by first | decide | omega)
  have hok0 : realP.appOk 5 40 [encIn ⟨1, 0, 0, 0, x⟩] [encIn ⟨15, 1, 0, 0, r⟩, encIn ⟨1, 2, 0, 0, n⟩] = true := rfl
  have hcat0 : realP.cat [encIn ⟨1, 0, 0, 0, x⟩] [encIn ⟨15, 1, 0, 0, r⟩, encIn ⟨1, 2, 0, 0, n⟩] = [encIn ⟨1, 0, 0, 0, x⟩, encIn ⟨15, 1, 0, 0, r⟩, encIn ⟨1, 2, 0, 0, n⟩] := rfl
  have hok1 : realP.appOk 5 40 [encIn ⟨1, 0, 0, 0, x⟩, encIn ⟨15, 1, 0, 0, r⟩, encIn ⟨1, 2, 0, 0, n⟩] [encIn ⟨23, 0, 0, 0, 14⟩, encIn ⟨2, 3, 0, 0, 0⟩] = true := rfl
  have hcat1 : realP.cat [encIn ⟨1, 0, 0, 0, x⟩, encIn ⟨15, 1, 0, 0, r⟩, encIn ⟨1, 2, 0, 0, n⟩] [encIn ⟨23, 0, 0, 0, 14⟩, encIn ⟨2, 3, 0, 0, 0⟩] = [encIn ⟨1, 0, 0, 0, x⟩, encIn ⟨15, 1, 0, 0, r⟩, encIn ⟨1, 2, 0, 0, n⟩, encIn ⟨23, 0, 0, 0, 14⟩, encIn ⟨2, 3, 0, 0, 0⟩] := rfl
  refine ⟨[⟨1, 0, 0, 0, x⟩, ⟨15, 1, 0, 0, r⟩, ⟨1, 2, 0, 0, n⟩, ⟨23, 0, 0, 0, 14⟩, ⟨2, 3, 0, 0, 0⟩], k1, hd1, ?_, by simp, ?_⟩
  · intro x hx
    simp only [List.mem_cons, List.not_mem_nil, or_false] at hx
    rcases hx with rfl | rfl | rfl | rfl | rfl
    all_goals refine ⟨⟨by dsimp only; omega, by dsimp only; omega, by dsimp only; omega, by dsimp only; omega⟩, fun hj => ?_⟩
    all_goals dsimp only at hj ⊢
    all_goals first | (exact absurd hj (by rw [nojump (by decide)]; decide)) | (exact absurd hj (by rw [xj]; decide)) | (simp only [List.length_cons, List.length_nil]; omega)
  · simp only [stP, stPr, encD, encI, encIn, List.map_cons, List.map_nil] at *
    generalize l.map encI = D at *
    generalize sizes.map encI = Z at *
    generalize (k : Int) = ik at *
    generalize (k1 : Int) = ik1 at *
    (generalize realP = Pr at *; obtain ⟨ar, cm, sh, sb, un, cv, natI, lenN, inb, inw, elt, addN, subN, slOk, win, immC, immW, allLen, appOk, cat, mkOk, rep, getC, setC, shC, eqf, eqB, notB, fmm, strAt, strLen, strB, strOk, bstr, cpy, it⟩ := Pr; try dsimp only at *)
    ((repeat (cbv; first | done | rw [hb1] | rw [hb2] | rw [hb3] | rw [hb4] | rw [hb5] | rw [heq] | rw [hLi] | rw [hSys] | rw [hMov] | rw [h1] | rw [if_pos hok0] | rw [hcat0] | rw [if_pos hok1] | rw [hcat1])); try cbv)
set_option maxRecDepth 100000 in
set_option maxHeartbeats 8000000 in
theorem part_10 (hb : PartBox box) (hF : PartF F) (l k) (hd : DeckOk l k) (sizes : List Int) (most at_ r n : Int) (ctx : PartOk sizes most at_ r n) : ∃ xs k', DeckOk l k' ∧ (∀ x ∈ xs, OkIn x ∧ (jumpB x.op = true → x.imm < at_ + xs.length)) ∧ xs.length ≤ 6 ∧
    S.runC realP (S.evCall realP ⟨box, ps⟩ F) N partB (stP (encD l k) sizes most at_ r n 10) = some (.ret, stPr (encD l k') xs) := by
  obtain ⟨hb1, hb2, hb3, hb4, hb5, hb6⟩ := hb
  obtain ⟨hN, hW, hLi, hSys, hMov, hIn⟩ := hF
  obtain ⟨s, hs0, hs1, hinb, helt, hm0, hm1, ha0, ha1, hr0, hr1, hn0, hn1⟩ := ctx.open
  unfold LiC at hLi
  unfold SysC at hSys
  unfold MovC at hMov
  have heq : ∀ a b : Int, realP.cm .eql a b = (a == b) := fun _ _ => rfl
  obtain ⟨x, k1, h1, hd1, x0, x1⟩ := hN l k 3 hd (by first | decide | omega) (by first | decide | omega)
  obtain ⟨y, k2, h2, hd2, y0, y1⟩ := hN l k1 4 hd1 (by first | decide | omega) (by first | decide | omega)
  refine ⟨[⟨1, 0, 0, 0, x⟩, ⟨1, 1, 0, 0, y⟩, ⟨23, 0, 0, 0, 3⟩, ⟨2, 7, 0, 0, 0⟩], k2, hd2, ?_, by simp, ?_⟩
  · intro x hx
    simp only [List.mem_cons, List.not_mem_nil, or_false] at hx
    rcases hx with rfl | rfl | rfl | rfl
    all_goals refine ⟨⟨by dsimp only; omega, by dsimp only; omega, by dsimp only; omega, by dsimp only; omega⟩, fun hj => ?_⟩
    all_goals dsimp only at hj ⊢
    all_goals first | (exact absurd hj (by rw [nojump (by decide)]; decide)) | (exact absurd hj (by rw [xj]; decide)) | (simp only [List.length_cons, List.length_nil]; omega)
  · simp only [stP, stPr, encD, encI, encIn, List.map_cons, List.map_nil] at *
    generalize l.map encI = D at *
    generalize sizes.map encI = Z at *
    generalize (k : Int) = ik at *
    generalize (k1 : Int) = ik1 at *
    generalize (k2 : Int) = ik2 at *
    (generalize realP = Pr at *; obtain ⟨ar, cm, sh, sb, un, cv, natI, lenN, inb, inw, elt, addN, subN, slOk, win, immC, immW, allLen, appOk, cat, mkOk, rep, getC, setC, shC, eqf, eqB, notB, fmm, strAt, strLen, strB, strOk, bstr, cpy, it⟩ := Pr; try dsimp only at *)
    ((repeat (cbv; first | done | rw [hb1] | rw [hb2] | rw [hb3] | rw [hb4] | rw [hb5] | rw [heq] | rw [hLi] | rw [hSys] | rw [hMov] | rw [h1] | rw [h2])); try cbv)
set_option maxRecDepth 100000 in
set_option maxHeartbeats 8000000 in
theorem part_11 (hb : PartBox box) (hF : PartF F) (l k) (hd : DeckOk l k) (sizes : List Int) (most at_ r n : Int) (ctx : PartOk sizes most at_ r n) : ∃ xs k', DeckOk l k' ∧ (∀ x ∈ xs, OkIn x ∧ (jumpB x.op = true → x.imm < at_ + xs.length)) ∧ xs.length ≤ 6 ∧
    S.runC realP (S.evCall realP ⟨box, ps⟩ F) N partB (stP (encD l k) sizes most at_ r n 11) = some (.ret, stPr (encD l k') xs) := by
  obtain ⟨hb1, hb2, hb3, hb4, hb5, hb6⟩ := hb
  obtain ⟨hN, hW, hLi, hSys, hMov, hIn⟩ := hF
  obtain ⟨s, hs0, hs1, hinb, helt, hm0, hm1, ha0, ha1, hr0, hr1, hn0, hn1⟩ := ctx.open
  unfold LiC at hLi
  unfold SysC at hSys
  unfold MovC at hMov
  have heq : ∀ a b : Int, realP.cm .eql a b = (a == b) := fun _ _ => rfl
  obtain ⟨u1, k1, h1, hd1, v0, v1⟩ := hN l k 2 hd (by decide) (by decide)
  obtain ⟨u1, rfl⟩ : ∃ u' : Nat, u1 = .ofNat u' := ⟨u1.toNat, by simp only [Int.ofNat_eq_natCast]; omega⟩
  obtain ⟨x, x0, x1, xj, hin1, hg1⟩ := pick_lit [1, 2] u1 (by simp only [Int.ofNat_eq_natCast] at v1; simp only [List.length_cons, List.length_nil]; omega) (by kernel_rfl)
  simp only [List.map_cons, List.map_nil, encI] at hin1 hg1
  have hok0 : realP.appOk 5 40 [encIn ⟨2, 0, 7, 0, 0⟩] [encIn ⟨15, 1, 0, 0, r⟩, encIn ⟨1, 2, 0, 0, n⟩] = true := rfl
  have hcat0 : realP.cat [encIn ⟨2, 0, 7, 0, 0⟩] [encIn ⟨15, 1, 0, 0, r⟩, encIn ⟨1, 2, 0, 0, n⟩] = [encIn ⟨2, 0, 7, 0, 0⟩, encIn ⟨15, 1, 0, 0, r⟩, encIn ⟨1, 2, 0, 0, n⟩] := rfl
  have hok1 : realP.appOk 5 40 [encIn ⟨2, 0, 7, 0, 0⟩, encIn ⟨15, 1, 0, 0, r⟩, encIn ⟨1, 2, 0, 0, n⟩] [encIn ⟨23, 0, 0, 0, x⟩] = true := rfl
  have hcat1 : realP.cat [encIn ⟨2, 0, 7, 0, 0⟩, encIn ⟨15, 1, 0, 0, r⟩, encIn ⟨1, 2, 0, 0, n⟩] [encIn ⟨23, 0, 0, 0, x⟩] = [encIn ⟨2, 0, 7, 0, 0⟩, encIn ⟨15, 1, 0, 0, r⟩, encIn ⟨1, 2, 0, 0, n⟩, encIn ⟨23, 0, 0, 0, x⟩] := rfl
  refine ⟨[⟨2, 0, 7, 0, 0⟩, ⟨15, 1, 0, 0, r⟩, ⟨1, 2, 0, 0, n⟩, ⟨23, 0, 0, 0, x⟩], k1, hd1, ?_, by simp, ?_⟩
  · intro x hx
    simp only [List.mem_cons, List.not_mem_nil, or_false] at hx
    rcases hx with rfl | rfl | rfl | rfl
    all_goals refine ⟨⟨by dsimp only; omega, by dsimp only; omega, by dsimp only; omega, by dsimp only; omega⟩, fun hj => ?_⟩
    all_goals dsimp only at hj ⊢
    all_goals first | (exact absurd hj (by rw [nojump (by decide)]; decide)) | (exact absurd hj (by rw [xj]; decide)) | (simp only [List.length_cons, List.length_nil]; omega)
  · simp only [stP, stPr, encD, encI, encIn, List.map_cons, List.map_nil] at *
    generalize l.map encI = D at *
    generalize sizes.map encI = Z at *
    generalize (k : Int) = ik at *
    generalize (k1 : Int) = ik1 at *
    (generalize realP = Pr at *; obtain ⟨ar, cm, sh, sb, un, cv, natI, lenN, inb, inw, elt, addN, subN, slOk, win, immC, immW, allLen, appOk, cat, mkOk, rep, getC, setC, shC, eqf, eqB, notB, fmm, strAt, strLen, strB, strOk, bstr, cpy, it⟩ := Pr; try dsimp only at *)
    ((repeat (cbv; first | done | rw [hb1] | rw [hb2] | rw [hb3] | rw [hb4] | rw [hb5] | rw [heq] | rw [hLi] | rw [hSys] | rw [hMov] | rw [h1] | rw [if_pos hin1] | rw [hg1] | rw [if_pos hok0] | rw [hcat0] | rw [if_pos hok1] | rw [hcat1])); try cbv)
set_option maxRecDepth 100000 in
set_option maxHeartbeats 8000000 in
theorem part_12 (hb : PartBox box) (hF : PartF F) (l k) (hd : DeckOk l k) (sizes : List Int) (most at_ r n : Int) (ctx : PartOk sizes most at_ r n) : ∃ xs k', DeckOk l k' ∧ (∀ x ∈ xs, OkIn x ∧ (jumpB x.op = true → x.imm < at_ + xs.length)) ∧ xs.length ≤ 6 ∧
    S.runC realP (S.evCall realP ⟨box, ps⟩ F) N partB (stP (encD l k) sizes most at_ r n 12) = some (.ret, stPr (encD l k') xs) := by
  obtain ⟨hb1, hb2, hb3, hb4, hb5, hb6⟩ := hb
  obtain ⟨hN, hW, hLi, hSys, hMov, hIn⟩ := hF
  obtain ⟨s, hs0, hs1, hinb, helt, hm0, hm1, ha0, ha1, hr0, hr1, hn0, hn1⟩ := ctx.open
  unfold LiC at hLi
  unfold SysC at hSys
  unfold MovC at hMov
  have heq : ∀ a b : Int, realP.cm .eql a b = (a == b) := fun _ _ => rfl
  obtain ⟨x, k1, h1, hd1, x0, x1⟩ := hN l k 4 hd (by first | decide | omega) (by first | decide | omega)
  obtain ⟨u, k2, h2, hd2, v0, v1⟩ := hN l k1 2 hd1 (by decide) (by decide)
  obtain rfl | rfl : u = 0 ∨ u = 1 := by omega
  · have hin : realP.inb [[.ow [encIn ⟨2, 0, 7, 0, 0⟩, encIn ⟨23, 0, 0, 0, 4⟩]], [.ow [encIn ⟨2, 0, 7, 0, 0⟩, encIn ⟨1, 1, 0, 0, x⟩, encIn ⟨23, 0, 0, 0, 5⟩]]] 0 1 = true := rfl
    have hg : realP.getC [[.ow [encIn ⟨2, 0, 7, 0, 0⟩, encIn ⟨23, 0, 0, 0, 4⟩]], [.ow [encIn ⟨2, 0, 7, 0, 0⟩, encIn ⟨1, 1, 0, 0, x⟩, encIn ⟨23, 0, 0, 0, 5⟩]]] (0, 1, 0) [] = some (.ow [encIn ⟨2, 0, 7, 0, 0⟩, encIn ⟨23, 0, 0, 0, 4⟩]) := rfl
    obtain ⟨cc, hset⟩ : ∃ cc, realP.setC [[.ow [encIn ⟨2, 0, 7, 0, 0⟩, encIn ⟨23, 0, 0, 0, 4⟩]], [.ow [encIn ⟨2, 0, 7, 0, 0⟩, encIn ⟨1, 1, 0, 0, x⟩, encIn ⟨23, 0, 0, 0, 5⟩]]] (0, 1, 0) [] .dead = cc := ⟨_, rfl⟩
    refine ⟨[⟨2, 0, 7, 0, 0⟩, ⟨23, 0, 0, 0, 4⟩], k2, hd2, ?_, by simp, ?_⟩
    · intro x hx
      simp only [List.mem_cons, List.not_mem_nil, or_false] at hx
      rcases hx with rfl | rfl
      all_goals refine ⟨⟨by dsimp only; omega, by dsimp only; omega, by dsimp only; omega, by dsimp only; omega⟩, fun hj => ?_⟩
      all_goals dsimp only at hj ⊢
      all_goals first | (exact absurd hj (by rw [nojump (by decide)]; decide)) | (exact absurd hj (by rw [xj]; decide)) | (simp only [List.length_cons, List.length_nil]; omega)
    · simp only [stP, stPr, encD, encI, encIn, List.map_cons, List.map_nil] at *
      generalize l.map encI = D at *
      generalize sizes.map encI = Z at *
      generalize (k : Int) = ik at *
      generalize (k1 : Int) = ik1 at *
      generalize (k2 : Int) = ik2 at *
      (generalize realP = Pr at *; obtain ⟨ar, cm, sh, sb, un, cv, natI, lenN, inb, inw, elt, addN, subN, slOk, win, immC, immW, allLen, appOk, cat, mkOk, rep, getC, setC, shC, eqf, eqB, notB, fmm, strAt, strLen, strB, strOk, bstr, cpy, it⟩ := Pr; try dsimp only at *)
      ((repeat (cbv; first | done | rw [hb1] | rw [hb2] | rw [hb3] | rw [hb4] | rw [hb5] | rw [heq] | rw [hLi] | rw [hSys] | rw [hMov] | rw [h1] | rw [h2] | rw [if_pos hin] | rw [hg] | rw [hset])); try cbv)
  · have hin : realP.inb [[.ow [encIn ⟨2, 0, 7, 0, 0⟩, encIn ⟨23, 0, 0, 0, 4⟩]], [.ow [encIn ⟨2, 0, 7, 0, 0⟩, encIn ⟨1, 1, 0, 0, x⟩, encIn ⟨23, 0, 0, 0, 5⟩]]] 1 1 = true := rfl
    have hg : realP.getC [[.ow [encIn ⟨2, 0, 7, 0, 0⟩, encIn ⟨23, 0, 0, 0, 4⟩]], [.ow [encIn ⟨2, 0, 7, 0, 0⟩, encIn ⟨1, 1, 0, 0, x⟩, encIn ⟨23, 0, 0, 0, 5⟩]]] (1, 1, 0) [] = some (.ow [encIn ⟨2, 0, 7, 0, 0⟩, encIn ⟨1, 1, 0, 0, x⟩, encIn ⟨23, 0, 0, 0, 5⟩]) := rfl
    obtain ⟨cc, hset⟩ : ∃ cc, realP.setC [[.ow [encIn ⟨2, 0, 7, 0, 0⟩, encIn ⟨23, 0, 0, 0, 4⟩]], [.ow [encIn ⟨2, 0, 7, 0, 0⟩, encIn ⟨1, 1, 0, 0, x⟩, encIn ⟨23, 0, 0, 0, 5⟩]]] (1, 1, 0) [] .dead = cc := ⟨_, rfl⟩
    refine ⟨[⟨2, 0, 7, 0, 0⟩, ⟨1, 1, 0, 0, x⟩, ⟨23, 0, 0, 0, 5⟩], k2, hd2, ?_, by simp, ?_⟩
    · intro x hx
      simp only [List.mem_cons, List.not_mem_nil, or_false] at hx
      rcases hx with rfl | rfl | rfl
      all_goals refine ⟨⟨by dsimp only; omega, by dsimp only; omega, by dsimp only; omega, by dsimp only; omega⟩, fun hj => ?_⟩
      all_goals dsimp only at hj ⊢
      all_goals first | (exact absurd hj (by rw [nojump (by decide)]; decide)) | (exact absurd hj (by rw [xj]; decide)) | (simp only [List.length_cons, List.length_nil]; omega)
    · simp only [stP, stPr, encD, encI, encIn, List.map_cons, List.map_nil] at *
      generalize l.map encI = D at *
      generalize sizes.map encI = Z at *
      generalize (k : Int) = ik at *
      generalize (k1 : Int) = ik1 at *
      generalize (k2 : Int) = ik2 at *
      (generalize realP = Pr at *; obtain ⟨ar, cm, sh, sb, un, cv, natI, lenN, inb, inw, elt, addN, subN, slOk, win, immC, immW, allLen, appOk, cat, mkOk, rep, getC, setC, shC, eqf, eqB, notB, fmm, strAt, strLen, strB, strOk, bstr, cpy, it⟩ := Pr; try dsimp only at *)
      ((repeat (cbv; first | done | rw [hb1] | rw [hb2] | rw [hb3] | rw [hb4] | rw [hb5] | rw [heq] | rw [hLi] | rw [hSys] | rw [hMov] | rw [h1] | rw [h2] | rw [if_pos hin] | rw [hg] | rw [hset])); try cbv)
set_option maxRecDepth 100000 in
set_option maxHeartbeats 8000000 in
theorem part_13 (hb : PartBox box) (hF : PartF F) (l k) (hd : DeckOk l k) (sizes : List Int) (most at_ r n : Int) (ctx : PartOk sizes most at_ r n) : ∃ xs k', DeckOk l k' ∧ (∀ x ∈ xs, OkIn x ∧ (jumpB x.op = true → x.imm < at_ + xs.length)) ∧ xs.length ≤ 6 ∧
    S.runC realP (S.evCall realP ⟨box, ps⟩ F) N partB (stP (encD l k) sizes most at_ r n 13) = some (.ret, stPr (encD l k') xs) := by
  obtain ⟨hb1, hb2, hb3, hb4, hb5, hb6⟩ := hb
  obtain ⟨hN, hW, hLi, hSys, hMov, hIn⟩ := hF
  obtain ⟨s, hs0, hs1, hinb, helt, hm0, hm1, ha0, ha1, hr0, hr1, hn0, hn1⟩ := ctx.open
  unfold LiC at hLi
  unfold SysC at hSys
  unfold MovC at hMov
  have heq : ∀ a b : Int, realP.cm .eql a b = (a == b) := fun _ _ => rfl
  obtain ⟨u1, k1, h1, hd1, v0, v1⟩ := hN l k 3 hd (by decide) (by decide)
  obtain ⟨u1, rfl⟩ : ∃ u' : Nat, u1 = .ofNat u' := ⟨u1.toNat, by simp only [Int.ofNat_eq_natCast]; omega⟩
  obtain ⟨x, x0, x1, xj, hin1, hg1⟩ := pick_lit [6, 7, 15] u1 (by simp only [Int.ofNat_eq_natCast] at v1; simp only [List.length_cons, List.length_nil]; omega) (by kernel_rfl)
  simp only [List.map_cons, List.map_nil, encI] at hin1 hg1
  obtain ⟨y, k2, h2, hd2, y0, y1⟩ := hN l k1 3 hd1 (by first | decide | omega) (by first | decide | omega)
  refine ⟨[⟨23, 0, 0, 0, x⟩, ⟨2, (realP.ar .add .i64 3 y), 0, 0, 0⟩], k2, hd2, ?_, by simp, ?_⟩
  · intro x hx
    simp only [List.mem_cons, List.not_mem_nil, or_false] at hx
    rcases hx with rfl | rfl
    all_goals refine ⟨⟨by dsimp only; omega, by dsimp only; omega, by dsimp only; omega, by dsimp only; omega⟩, fun hj => ?_⟩
    all_goals dsimp only at hj ⊢
    all_goals first | (exact absurd hj (by rw [nojump (by decide)]; decide)) | (exact absurd hj (by rw [xj]; decide)) | (simp only [List.length_cons, List.length_nil]; omega)
  · simp only [stP, stPr, encD, encI, encIn, List.map_cons, List.map_nil] at *
    generalize l.map encI = D at *
    generalize sizes.map encI = Z at *
    generalize (k : Int) = ik at *
    generalize (k1 : Int) = ik1 at *
    generalize (k2 : Int) = ik2 at *
    (generalize realP = Pr at *; obtain ⟨ar, cm, sh, sb, un, cv, natI, lenN, inb, inw, elt, addN, subN, slOk, win, immC, immW, allLen, appOk, cat, mkOk, rep, getC, setC, shC, eqf, eqB, notB, fmm, strAt, strLen, strB, strOk, bstr, cpy, it⟩ := Pr; try dsimp only at *)
    ((repeat (cbv; first | done | rw [hb1] | rw [hb2] | rw [hb3] | rw [hb4] | rw [hb5] | rw [heq] | rw [hLi] | rw [hSys] | rw [hMov] | rw [h1] | rw [if_pos hin1] | rw [hg1] | rw [h2])); try cbv)
set_option maxRecDepth 100000 in
set_option maxHeartbeats 8000000 in
theorem part_14 (hb : PartBox box) (hF : PartF F) (l k) (hd : DeckOk l k) (sizes : List Int) (most at_ r n : Int) (ctx : PartOk sizes most at_ r n) : ∃ xs k', DeckOk l k' ∧ (∀ x ∈ xs, OkIn x ∧ (jumpB x.op = true → x.imm < at_ + xs.length)) ∧ xs.length ≤ 6 ∧
    S.runC realP (S.evCall realP ⟨box, ps⟩ F) N partB (stP (encD l k) sizes most at_ r n 14) = some (.ret, stPr (encD l k') xs) := by
  obtain ⟨hb1, hb2, hb3, hb4, hb5, hb6⟩ := hb
  obtain ⟨hN, hW, hLi, hSys, hMov, hIn⟩ := hF
  obtain ⟨s, hs0, hs1, hinb, helt, hm0, hm1, ha0, ha1, hr0, hr1, hn0, hn1⟩ := ctx.open
  unfold LiC at hLi
  unfold SysC at hSys
  unfold MovC at hMov
  have heq : ∀ a b : Int, realP.cm .eql a b = (a == b) := fun _ _ => rfl
  obtain ⟨x, k1, h1, hd1, x0, x1⟩ := hN l k 3 hd (by first | decide | omega) (by first | decide | omega)
  obtain ⟨u2, k2, h2, hd2, v0, v1⟩ := hN l k1 2 hd1 (by decide) (by decide)
  obtain ⟨u2, rfl⟩ : ∃ u' : Nat, u2 = .ofNat u' := ⟨u2.toNat, by simp only [Int.ofNat_eq_natCast]; omega⟩
  obtain ⟨y, y0, y1, yj, hin2, hg2⟩ := pick_lit [8, 9] u2 (by simp only [Int.ofNat_eq_natCast] at v1; simp only [List.length_cons, List.length_nil]; omega) (by kernel_rfl)
  simp only [List.map_cons, List.map_nil, encI] at hin2 hg2
  refine ⟨[⟨1, 0, 0, 0, x⟩, ⟨23, 0, 0, 0, y⟩], k2, hd2, ?_, by simp, ?_⟩
  · intro x hx
    simp only [List.mem_cons, List.not_mem_nil, or_false] at hx
    rcases hx with rfl | rfl
    all_goals refine ⟨⟨by dsimp only; omega, by dsimp only; omega, by dsimp only; omega, by dsimp only; omega⟩, fun hj => ?_⟩
    all_goals dsimp only at hj ⊢
    all_goals first | (exact absurd hj (by rw [nojump (by decide)]; decide)) | (exact absurd hj (by rw [xj]; decide)) | (simp only [List.length_cons, List.length_nil]; omega)
  · simp only [stP, stPr, encD, encI, encIn, List.map_cons, List.map_nil] at *
    generalize l.map encI = D at *
    generalize sizes.map encI = Z at *
    generalize (k : Int) = ik at *
    generalize (k1 : Int) = ik1 at *
    generalize (k2 : Int) = ik2 at *
    (generalize realP = Pr at *; obtain ⟨ar, cm, sh, sb, un, cv, natI, lenN, inb, inw, elt, addN, subN, slOk, win, immC, immW, allLen, appOk, cat, mkOk, rep, getC, setC, shC, eqf, eqB, notB, fmm, strAt, strLen, strB, strOk, bstr, cpy, it⟩ := Pr; try dsimp only at *)
    ((repeat (cbv; first | done | rw [hb1] | rw [hb2] | rw [hb3] | rw [hb4] | rw [hb5] | rw [heq] | rw [hLi] | rw [hSys] | rw [hMov] | rw [h1] | rw [h2] | rw [if_pos hin2] | rw [hg2])); try cbv)
set_option maxRecDepth 100000 in
set_option maxHeartbeats 8000000 in
theorem part_15 (hb : PartBox box) (hF : PartF F) (l k) (hd : DeckOk l k) (sizes : List Int) (most at_ r n : Int) (ctx : PartOk sizes most at_ r n) : ∃ xs k', DeckOk l k' ∧ (∀ x ∈ xs, OkIn x ∧ (jumpB x.op = true → x.imm < at_ + xs.length)) ∧ xs.length ≤ 6 ∧
    S.runC realP (S.evCall realP ⟨box, ps⟩ F) N partB (stP (encD l k) sizes most at_ r n 15) = some (.ret, stPr (encD l k') xs) := by
  obtain ⟨hb1, hb2, hb3, hb4, hb5, hb6⟩ := hb
  obtain ⟨hN, hW, hLi, hSys, hMov, hIn⟩ := hF
  obtain ⟨s, hs0, hs1, hinb, helt, hm0, hm1, ha0, ha1, hr0, hr1, hn0, hn1⟩ := ctx.open
  unfold LiC at hLi
  unfold SysC at hSys
  unfold MovC at hMov
  have heq : ∀ a b : Int, realP.cm .eql a b = (a == b) := fun _ _ => rfl
  obtain ⟨x, k1, h1, hd1, x0, x1⟩ := hN l k 3 hd (by first | decide | omega) (by first | decide | omega)
  obtain ⟨u2, k2, h2, hd2, v0, v1⟩ := hN l k1 2 hd1 (by decide) (by decide)
  obtain ⟨u2, rfl⟩ : ∃ u' : Nat, u2 = .ofNat u' := ⟨u2.toNat, by simp only [Int.ofNat_eq_natCast]; omega⟩
  obtain ⟨y, y0, y1, yj, hin2, hg2⟩ := pick_lit [8, 9] u2 (by simp only [Int.ofNat_eq_natCast] at v1; simp only [List.length_cons, List.length_nil]; omega) (by kernel_rfl)
  simp only [List.map_cons, List.map_nil, encI] at hin2 hg2
  refine ⟨[⟨1, 0, 0, 0, x⟩, ⟨23, 0, 0, 0, y⟩], k2, hd2, ?_, by simp, ?_⟩
  · intro x hx
    simp only [List.mem_cons, List.not_mem_nil, or_false] at hx
    rcases hx with rfl | rfl
    all_goals refine ⟨⟨by dsimp only; omega, by dsimp only; omega, by dsimp only; omega, by dsimp only; omega⟩, fun hj => ?_⟩
    all_goals dsimp only at hj ⊢
    all_goals first | (exact absurd hj (by rw [nojump (by decide)]; decide)) | (exact absurd hj (by rw [xj]; decide)) | (simp only [List.length_cons, List.length_nil]; omega)
  · simp only [stP, stPr, encD, encI, encIn, List.map_cons, List.map_nil] at *
    generalize l.map encI = D at *
    generalize sizes.map encI = Z at *
    generalize (k : Int) = ik at *
    generalize (k1 : Int) = ik1 at *
    generalize (k2 : Int) = ik2 at *
    (generalize realP = Pr at *; obtain ⟨ar, cm, sh, sb, un, cv, natI, lenN, inb, inw, elt, addN, subN, slOk, win, immC, immW, allLen, appOk, cat, mkOk, rep, getC, setC, shC, eqf, eqB, notB, fmm, strAt, strLen, strB, strOk, bstr, cpy, it⟩ := Pr; try dsimp only at *)
    ((repeat (cbv; first | done | rw [hb1] | rw [hb2] | rw [hb3] | rw [hb4] | rw [hb5] | rw [heq] | rw [hLi] | rw [hSys] | rw [hMov] | rw [h1] | rw [h2] | rw [if_pos hin2] | rw [hg2])); try cbv)
set_option maxRecDepth 100000 in
set_option maxHeartbeats 8000000 in
theorem part_16 (hb : PartBox box) (hF : PartF F) (l k) (hd : DeckOk l k) (sizes : List Int) (most at_ r n : Int) (ctx : PartOk sizes most at_ r n) : ∃ xs k', DeckOk l k' ∧ (∀ x ∈ xs, OkIn x ∧ (jumpB x.op = true → x.imm < at_ + xs.length)) ∧ xs.length ≤ 6 ∧
    S.runC realP (S.evCall realP ⟨box, ps⟩ F) N partB (stP (encD l k) sizes most at_ r n 16) = some (.ret, stPr (encD l k') xs) := by
  obtain ⟨hb1, hb2, hb3, hb4, hb5, hb6⟩ := hb
  obtain ⟨hN, hW, hLi, hSys, hMov, hIn⟩ := hF
  obtain ⟨s, hs0, hs1, hinb, helt, hm0, hm1, ha0, ha1, hr0, hr1, hn0, hn1⟩ := ctx.open
  unfold LiC at hLi
  unfold SysC at hSys
  unfold MovC at hMov
  have heq : ∀ a b : Int, realP.cm .eql a b = (a == b) := fun _ _ => rfl
  obtain ⟨x, k1, h1, hd1, x0, x1⟩ := hN l k most hd (by first | decide | omega) (by first | decide | omega)
  refine ⟨[⟨1, 0, 0, 0, x⟩, ⟨2, 1, 3, 0, 0⟩, ⟨23, 0, 0, 0, 10⟩], k1, hd1, ?_, by simp, ?_⟩
  · intro x hx
    simp only [List.mem_cons, List.not_mem_nil, or_false] at hx
    rcases hx with rfl | rfl | rfl
    all_goals refine ⟨⟨by dsimp only; omega, by dsimp only; omega, by dsimp only; omega, by dsimp only; omega⟩, fun hj => ?_⟩
    all_goals dsimp only at hj ⊢
    all_goals first | (exact absurd hj (by rw [nojump (by decide)]; decide)) | (exact absurd hj (by rw [xj]; decide)) | (simp only [List.length_cons, List.length_nil]; omega)
  · simp only [stP, stPr, encD, encI, encIn, List.map_cons, List.map_nil] at *
    generalize l.map encI = D at *
    generalize sizes.map encI = Z at *
    generalize (k : Int) = ik at *
    generalize (k1 : Int) = ik1 at *
    (generalize realP = Pr at *; obtain ⟨ar, cm, sh, sb, un, cv, natI, lenN, inb, inw, elt, addN, subN, slOk, win, immC, immW, allLen, appOk, cat, mkOk, rep, getC, setC, shC, eqf, eqB, notB, fmm, strAt, strLen, strB, strOk, bstr, cpy, it⟩ := Pr; try dsimp only at *)
    ((repeat (cbv; first | done | rw [hb1] | rw [hb2] | rw [hb3] | rw [hb4] | rw [hb5] | rw [heq] | rw [hLi] | rw [hSys] | rw [hMov] | rw [h1])); try cbv)
set_option maxRecDepth 100000 in
set_option maxHeartbeats 8000000 in
theorem part_17 (hb : PartBox box) (hF : PartF F) (l k) (hd : DeckOk l k) (sizes : List Int) (most at_ r n : Int) (ctx : PartOk sizes most at_ r n) : ∃ xs k', DeckOk l k' ∧ (∀ x ∈ xs, OkIn x ∧ (jumpB x.op = true → x.imm < at_ + xs.length)) ∧ xs.length ≤ 6 ∧
    S.runC realP (S.evCall realP ⟨box, ps⟩ F) N partB (stP (encD l k) sizes most at_ r n 17) = some (.ret, stPr (encD l k') xs) := by
  obtain ⟨hb1, hb2, hb3, hb4, hb5, hb6⟩ := hb
  obtain ⟨hN, hW, hLi, hSys, hMov, hIn⟩ := hF
  obtain ⟨s, hs0, hs1, hinb, helt, hm0, hm1, ha0, ha1, hr0, hr1, hn0, hn1⟩ := ctx.open
  unfold LiC at hLi
  unfold SysC at hSys
  unfold MovC at hMov
  have heq : ∀ a b : Int, realP.cm .eql a b = (a == b) := fun _ _ => rfl
  obtain ⟨u1, k1, h1, hd1, v0, v1⟩ := hN l k 2 hd (by decide) (by decide)
  obtain ⟨u1, rfl⟩ : ∃ u' : Nat, u1 = .ofNat u' := ⟨u1.toNat, by simp only [Int.ofNat_eq_natCast]; omega⟩
  obtain ⟨pm, pm0, pm1, hin1, hg1⟩ := pick_two most 5 u1 (by simp only [Int.ofNat_eq_natCast] at v1; omega) (by omega) (by omega)
  obtain ⟨x, k2, h2, hd2, x0, x1⟩ := hN l k1 pm hd1 (by omega) (by omega)
  obtain ⟨u3, k3, h3, hd3, v0, v1⟩ := hN l k2 2 hd2 (by decide) (by decide)
  obtain ⟨u3, rfl⟩ : ∃ u' : Nat, u3 = .ofNat u' := ⟨u3.toNat, by simp only [Int.ofNat_eq_natCast]; omega⟩
  obtain ⟨y, y0, y1, yj, hin3, hg3⟩ := pick_lit [12, 11] u3 (by simp only [Int.ofNat_eq_natCast] at v1; simp only [List.length_cons, List.length_nil]; omega) (by kernel_rfl)
  simp only [List.map_cons, List.map_nil, encI] at hin3 hg3
  refine ⟨[⟨1, 0, 0, 0, x⟩, ⟨23, 0, 0, 0, y⟩], k3, hd3, ?_, by simp, ?_⟩
  · intro x hx
    simp only [List.mem_cons, List.not_mem_nil, or_false] at hx
    rcases hx with rfl | rfl
    all_goals refine ⟨⟨by dsimp only; omega, by dsimp only; omega, by dsimp only; omega, by dsimp only; omega⟩, fun hj => ?_⟩
    all_goals dsimp only at hj ⊢
    all_goals first | (exact absurd hj (by rw [nojump (by decide)]; decide)) | (exact absurd hj (by rw [xj]; decide)) | (simp only [List.length_cons, List.length_nil]; omega)
  · simp only [stP, stPr, encD, encI, encIn, List.map_cons, List.map_nil] at *
    generalize l.map encI = D at *
    generalize sizes.map encI = Z at *
    generalize (k : Int) = ik at *
    generalize (k1 : Int) = ik1 at *
    generalize (k2 : Int) = ik2 at *
    generalize (k3 : Int) = ik3 at *
    (generalize realP = Pr at *; obtain ⟨ar, cm, sh, sb, un, cv, natI, lenN, inb, inw, elt, addN, subN, slOk, win, immC, immW, allLen, appOk, cat, mkOk, rep, getC, setC, shC, eqf, eqB, notB, fmm, strAt, strLen, strB, strOk, bstr, cpy, it⟩ := Pr; try dsimp only at *)
    ((repeat (cbv; first | done | rw [hb1] | rw [hb2] | rw [hb3] | rw [hb4] | rw [hb5] | rw [heq] | rw [hLi] | rw [hSys] | rw [hMov] | rw [h1] | rw [if_pos hin1] | rw [hg1] | rw [h2] | rw [h3] | rw [if_pos hin3] | rw [hg3])); try cbv)
set_option maxRecDepth 100000 in
set_option maxHeartbeats 8000000 in
theorem part_18 (hb : PartBox box) (hF : PartF F) (l k) (hd : DeckOk l k) (sizes : List Int) (most at_ r n : Int) (ctx : PartOk sizes most at_ r n) : ∃ xs k', DeckOk l k' ∧ (∀ x ∈ xs, OkIn x ∧ (jumpB x.op = true → x.imm < at_ + xs.length)) ∧ xs.length ≤ 6 ∧
    S.runC realP (S.evCall realP ⟨box, ps⟩ F) N partB (stP (encD l k) sizes most at_ r n 18) = some (.ret, stPr (encD l k') xs) := by
  obtain ⟨hb1, hb2, hb3, hb4, hb5, hb6⟩ := hb
  obtain ⟨hN, hW, hLi, hSys, hMov, hIn⟩ := hF
  obtain ⟨s, hs0, hs1, hinb, helt, hm0, hm1, ha0, ha1, hr0, hr1, hn0, hn1⟩ := ctx.open
  unfold LiC at hLi
  unfold SysC at hSys
  unfold MovC at hMov
  have heq : ∀ a b : Int, realP.cm .eql a b = (a == b) := fun _ _ => rfl
  obtain ⟨x, k1, h1, hd1, x0, x1⟩ := hN l k 4 hd (by first | decide | omega) (by first | decide | omega)
  have hat : realP.ar .add .i64 at_ 2 = at_ + 2 := add64 (by omega) (by omega)
  have hx1 : realP.ar .add .i64 1 x = 1 + x := add64 (by omega) (by omega)
  refine ⟨[⟨1, 5, 0, 0, (realP.ar .add .i64 1 x)⟩, ⟨1, 4, 0, 0, 1⟩, ⟨4, 5, 5, 4, 0⟩, ⟨20, 5, 0, 0, (realP.ar .add .i64 at_ 2)⟩], k1, hd1, ?_, by simp, ?_⟩
  · intro x hx
    simp only [List.mem_cons, List.not_mem_nil, or_false] at hx
    rcases hx with rfl | rfl | rfl | rfl
    all_goals refine ⟨⟨by dsimp only; omega, by dsimp only; omega, by dsimp only; omega, by dsimp only; omega⟩, fun hj => ?_⟩
    all_goals dsimp only at hj ⊢
    all_goals first | (exact absurd hj (by rw [nojump (by decide)]; decide)) | (exact absurd hj (by rw [xj]; decide)) | (simp only [List.length_cons, List.length_nil]; omega)
  · simp only [stP, stPr, encD, encI, encIn, List.map_cons, List.map_nil] at *
    generalize l.map encI = D at *
    generalize sizes.map encI = Z at *
    generalize (k : Int) = ik at *
    generalize (k1 : Int) = ik1 at *
    (generalize realP = Pr at *; obtain ⟨ar, cm, sh, sb, un, cv, natI, lenN, inb, inw, elt, addN, subN, slOk, win, immC, immW, allLen, appOk, cat, mkOk, rep, getC, setC, shC, eqf, eqB, notB, fmm, strAt, strLen, strB, strOk, bstr, cpy, it⟩ := Pr; try dsimp only at *)
    ((repeat (cbv; first | done | rw [hb1] | rw [hb2] | rw [hb3] | rw [hb4] | rw [hb5] | rw [heq] | rw [hLi] | rw [hSys] | rw [hMov] | rw [h1])); try cbv)
set_option maxRecDepth 100000 in
set_option maxHeartbeats 8000000 in
theorem part_19 (hb : PartBox box) (sizes : List Int) (D : List (List TV) × Int) (most at_ r n v : Int) (hv : 18 < v) :
    S.runC realP (S.evCall realP ⟨box, ps⟩ F) N partB (stP [.sl D.1, .v (.int .i64 D.2)] sizes most at_ r n v) = some (.normal, stP0 [.sl D.1, .v (.int .i64 D.2)] sizes most at_) := by
  obtain ⟨hb1, hb2, hb3, hb4, hb5, hb6⟩ := hb
  obtain ⟨D, i0⟩ := D
  have c0 : ∀ x : Int, x ≤ 18 → realP.cm .eql v x = false := fun x hx => eql_f (by omega)
  have d0 := c0 0 (by decide)
  have d1 := c0 1 (by decide)
  have d2 := c0 2 (by decide)
  have d3 := c0 3 (by decide)
  have d4 := c0 4 (by decide)
  have d5 := c0 5 (by decide)
  have d6 := c0 6 (by decide)
  have d7 := c0 7 (by decide)
  have d8 := c0 8 (by decide)
  have d9 := c0 9 (by decide)
  have d10 := c0 10 (by decide)
  have d11 := c0 11 (by decide)
  have d12 := c0 12 (by decide)
  have d13 := c0 13 (by decide)
  have d14 := c0 14 (by decide)
  have d15 := c0 15 (by decide)
  have d16 := c0 16 (by decide)
  have d17 := c0 17 (by decide)
  have d18 := c0 18 (by decide)
  clear c0
  simp only [stP, stP0, encIn]
  generalize sizes.map encI = Z
  (generalize realP = Pr at *; obtain ⟨ar, cm, sh, sb, un, cv, natI, lenN, inb, inw, elt, addN, subN, slOk, win, immC, immW, allLen, appOk, cat, mkOk, rep, getC, setC, shC, eqf, eqB, notB, fmm, strAt, strLen, strB, strOk, bstr, cpy, it⟩ := Pr; try dsimp only at *)
  ((repeat (cbv; first | done | rw [d0] | rw [d1] | rw [d2] | rw [d3] | rw [d4] | rw [d5] | rw [d6] | rw [d7] | rw [d8] | rw [d9] | rw [d10] | rw [d11] | rw [d12] | rw [d13] | rw [d14] | rw [d15] | rw [d16] | rw [d17] | rw [d18])); try cbv)

def PartC (F : Callee) : Prop := ∀ l k (sizes : List Int) (most at_ : Int), DeckOk l k → most = at_ + 1 → (∀ x ∈ sizes, IsSize x) → 1 ≤ sizes.length → sizes.length ≤ 4 → 0 < most → most ≤ 65536 → 0 ≤ at_ → at_ ≤ 60000 → ∃ (xs : List In) (k' : Nat), F 15 [.ptr ⟨2, 0, []⟩ [0], .sl (sizes.map encI), .v (.int .i64 most), .v (.int .i64 at_)] [(2, encD l k)] = some (⟨[.ow (xs.map encIn)], [.one]⟩, [(2, encD l k')]) ∧ DeckOk l k' ∧ (∀ x ∈ xs, OkIn x ∧ (jumpB x.op = true → x.imm < at_ + xs.length)) ∧ xs.length ≤ 6
/-- What a part's front does. -/
structure Front (Z : List (List TV)) (most at_ r n v s : Int) (rr : Nat) (D1 D2 D3 D4 : List (List TV) × Int) (m : Int) : Prop where
  hr : r = (rr : Int)
  h1 : F 14 [.ptr ⟨2, 0, []⟩ [0], .v (.int .i64 (realP.natI (realP.lenN Z)))] [(2, [.sl D1.1, .v (.int .i64 D1.2)])] = some (⟨[.v (.int .i64 r)], [.one]⟩, [(2, [.sl D2.1, .v (.int .i64 D2.2)])])
  hin : realP.inb Z rr 1 = true
  hel : realP.elt Z rr = [.v (.int .i64 s)]
  hmm : realP.fmm false .i64 5 [.int .i64 (realP.ar .add .i64 s 1)] = some m
  h2 : F 14 [.ptr ⟨2, 0, []⟩ [0], .v (.int .i64 m)] [(2, [.sl D2.1, .v (.int .i64 D2.2)])] = some (⟨[.v (.int .i64 n)], [.one]⟩, [(2, [.sl D3.1, .v (.int .i64 D3.2)])])
  h3 : F 14 [.ptr ⟨2, 0, []⟩ [0], .v (.int .i64 20)] [(2, [.sl D3.1, .v (.int .i64 D3.2)])] = some (⟨[.v (.int .i64 v)], [.one]⟩, [(2, [.sl D4.1, .v (.int .i64 D4.2)])])
set_option maxRecDepth 100000 in
set_option maxHeartbeats 8000000 in
theorem part_ret (hb : PartBox box) (hLi : LiC F) (cB cR : TCode) (Z : List (List TV)) (sizes : List Int) (hZ : Z = sizes.map encI) (most at_ r n v s : Int) (rr : Nat) (D1 D2 D3 D4 D5 : List (List TV) × Int) (m : Int) (fr : Front F Z most at_ r n v s rr D1 D2 D3 D4 m) (xs : List In)
    (e1 : S.runC realP (S.evCall realP ⟨box, ps⟩ F) N cB (stP [.sl D4.1, .v (.int .i64 D4.2)] sizes most at_ r n v) = some (.ret, stPr [.sl D5.1, .v (.int .i64 D5.2)] xs)) :
    S.runT realP ⟨box, ps⟩ F N (tfPart cB cR) [.ptr ⟨2, 0, []⟩ [0], .sl Z, .v (.int .i64 most), .v (.int .i64 at_)] [(2, [.sl D1.1, .v (.int .i64 D1.2)])] = some (⟨[.ow (xs.map encIn)], [.one]⟩, [(2, [.sl D5.1, .v (.int .i64 D5.2)])]) := by
  obtain ⟨hb1, hb2, hb3, hb4, hb5, hb6⟩ := hb
  obtain ⟨hr, h1, hin, hel, hmm, h2, h3⟩ := fr
  unfold LiC at hLi
  subst hZ
  subst hr
  obtain ⟨D1, i1⟩ := D1
  obtain ⟨D2, i2⟩ := D2
  obtain ⟨D3, i3⟩ := D3
  obtain ⟨D4, i4⟩ := D4
  obtain ⟨D5, i5⟩ := D5
  simp only [stP, stPr, encIn] at *
  generalize sizes.map encI = Z at *
  generalize List.map _ xs = X at *
  (generalize realP = Pr at *; obtain ⟨ar, cm, sh, sb, un, cv, natI, lenN, inb, inw, elt, addN, subN, slOk, win, immC, immW, allLen, appOk, cat, mkOk, rep, getC, setC, shC, eqf, eqB, notB, fmm, strAt, strLen, strB, strOk, bstr, cpy, it⟩ := Pr; try dsimp only at *)
  cbv at e1
  ((repeat (cbv; first | done | rw [hb1] | rw [h1] | rw [if_pos hin] | rw [hel] | rw [hmm] | rw [h2] | rw [hb3] | rw [hLi] | rw [h3] | rw [e1])); try cbv)
set_option maxRecDepth 100000 in
set_option maxHeartbeats 8000000 in
theorem part_def (hb : PartBox box) (hLi : LiC F) (cB cR : TCode) (Z : List (List TV)) (sizes : List Int) (hZ : Z = sizes.map encI) (most at_ r n v s : Int) (rr : Nat) (D1 D2 D3 D4 D5 : List (List TV) × Int) (m : Int) (fr : Front F Z most at_ r n v s rr D1 D2 D3 D4 m) (xs : List In)
    (e1 : S.runC realP (S.evCall realP ⟨box, ps⟩ F) N cB (stP [.sl D4.1, .v (.int .i64 D4.2)] sizes most at_ r n v) = some (.normal, stP0 [.sl D4.1, .v (.int .i64 D4.2)] sizes most at_))
    (e2 : S.runC realP (S.evCall realP ⟨box, ps⟩ F) N cR (stP0 [.sl D4.1, .v (.int .i64 D4.2)] sizes most at_) = some (.normal, stPr [.sl D5.1, .v (.int .i64 D5.2)] xs)) :
    S.runT realP ⟨box, ps⟩ F N (tfPart cB cR) [.ptr ⟨2, 0, []⟩ [0], .sl Z, .v (.int .i64 most), .v (.int .i64 at_)] [(2, [.sl D1.1, .v (.int .i64 D1.2)])] = some (⟨[.ow (xs.map encIn)], [.one]⟩, [(2, [.sl D5.1, .v (.int .i64 D5.2)])]) := by
  obtain ⟨hb1, hb2, hb3, hb4, hb5, hb6⟩ := hb
  obtain ⟨hr, h1, hin, hel, hmm, h2, h3⟩ := fr
  unfold LiC at hLi
  subst hZ
  subst hr
  obtain ⟨D1, i1⟩ := D1
  obtain ⟨D2, i2⟩ := D2
  obtain ⟨D3, i3⟩ := D3
  obtain ⟨D4, i4⟩ := D4
  obtain ⟨D5, i5⟩ := D5
  simp only [stP, stP0, stPr, encIn] at *
  generalize sizes.map encI = Z at *
  generalize List.map _ xs = X at *
  (generalize realP = Pr at *; obtain ⟨ar, cm, sh, sb, un, cv, natI, lenN, inb, inw, elt, addN, subN, slOk, win, immC, immW, allLen, appOk, cat, mkOk, rep, getC, setC, shC, eqf, eqB, notB, fmm, strAt, strLen, strB, strOk, bstr, cpy, it⟩ := Pr; try dsimp only at *)
  cbv at e1 e2
  ((repeat (cbv; first | done | rw [hb1] | rw [h1] | rw [if_pos hin] | rw [hel] | rw [hmm] | rw [h2] | rw [hb3] | rw [hLi] | rw [h3] | rw [e1] | rw [e2])); try cbv)
set_option maxRecDepth 100000 in
set_option maxHeartbeats 8000000 in
theorem part_R (hb : PartBox box) (hF : PartF F) (l k) (hd : DeckOk l k) (sizes : List Int) (most at_ : Int) (hma : most = at_ + 1) (hm : 0 < most) (hm2 : most ≤ 65536) (hl : 1 ≤ sizes.length) (hl2 : sizes.length ≤ 4) : ∃ xs k', DeckOk l k' ∧ (∀ x ∈ xs, OkIn x ∧ (jumpB x.op = true → x.imm < at_ + xs.length)) ∧ xs.length ≤ 6 ∧
    S.runC realP (S.evCall realP ⟨box, ps⟩ F) N partR (stP0 (encD l k) sizes most at_) = some (.normal, stPr (encD l k') xs) := by
  obtain ⟨hb1, hb2, hb3, hb4, hb5, hb6⟩ := hb
  obtain ⟨hN, hW, hLi, hSys, hMov, hIn⟩ := hF
  obtain ⟨x, k1, h1, hd1, hx, hxj⟩ := hIn l k (realP.natI (realP.lenN (sizes.map encI))) most hd (by rw [lenI_map]; omega) (by rw [lenI_map]; omega) hm hm2
  refine ⟨[x], k1, hd1, fun y hy => by rw [List.mem_singleton.1 hy]; exact ⟨hx, fun h => by have := hxj h; simp only [List.length_cons, List.length_nil]; omega⟩, by simp, ?_⟩
  simp only [stP0, stPr, encD, encIn, List.map_cons, List.map_nil] at *
  generalize l.map encI = D at *
  generalize sizes.map encI = Z at *
  generalize (k : Int) = i0 at *
  generalize (k1 : Int) = i1 at *
  (generalize realP = Pr at *; obtain ⟨ar, cm, sh, sb, un, cv, natI, lenN, inb, inw, elt, addN, subN, slOk, win, immC, immW, allLen, appOk, cat, mkOk, rep, getC, setC, shC, eqf, eqB, notB, fmm, strAt, strLen, strB, strOk, bstr, cpy, it⟩ := Pr; try dsimp only at *)
  ((repeat (cbv; first | done | rw [hb6] | rw [h1])); try cbv)
theorem part_run (hb : PartBox box) (hF : PartF F) (l k) (sizes : List Int) (most at_ : Int) (hma : most = at_ + 1) (hd : DeckOk l k) (hs : ∀ x ∈ sizes, IsSize x) (hl : 1 ≤ sizes.length) (hl2 : sizes.length ≤ 4) (hm : 0 < most) (hm2 : most ≤ 65536) (ha : 0 ≤ at_) (ha2 : at_ ≤ 60000) :
    ∃ (xs : List In) (k' : Nat), runT ⟨box, ps⟩ F N (tfPart partB partR) [.ptr ⟨2, 0, []⟩ [0], .sl (sizes.map encI), .v (.int .i64 most), .v (.int .i64 at_)] [(2, encD l k)] = some (⟨[.ow (xs.map encIn)], [.one]⟩, [(2, encD l k')]) ∧ DeckOk l k' ∧ (∀ x ∈ xs, OkIn x ∧ (jumpB x.op = true → x.imm < at_ + xs.length)) ∧ xs.length ≤ 6 := by
  simp only [← S.runT_real]
  obtain ⟨r, k1, h1, hd1, r0, r1⟩ := hF.f1 l k (realP.natI (realP.lenN (sizes.map encI))) hd (by rw [lenI_map]; omega) (by rw [lenI_map]; omega)
  rw [lenI_map] at r1
  obtain ⟨rr, rfl⟩ : ∃ rr : Nat, r = (rr : Int) := ⟨r.toNat, by omega⟩
  have hrr : rr < sizes.length := by omega
  have hsz := hs _ (List.getElem_mem hrr)
  obtain ⟨m, hmm, m0, m1⟩ : ∃ m, realP.fmm false .i64 5 [.int .i64 (realP.ar .add .i64 sizes[rr] 1)] = some m ∧ 0 < m ∧ m ≤ 5 := by
    rw [add64 (by have := hsz.1; omega) (by have := hsz.2; omega)]
    refine ⟨if sizes[rr] + 1 < 5 then sizes[rr] + 1 else 5, ?_, ?_, ?_⟩
    · rfl
    · have := hsz.1; split <;> omega
    · split <;> omega
  obtain ⟨n, k2, h2, hd2, n0, n1⟩ := hF.f1 l k1 m hd1 m0 (by omega)
  obtain ⟨v, k3, h3, hd3, v0, v1⟩ := hF.f1 l k2 20 hd2 (by decide) (by decide)
  have fr : Front F (sizes.map encI) most at_ rr n v sizes[rr] rr (l.map encI, (k : Int)) (l.map encI, (k1 : Int)) (l.map encI, (k2 : Int)) (l.map encI, (k3 : Int)) m := ⟨rfl, h1, inb_map hrr rfl (by decide), elt_map hrr, hmm, h2, h3⟩
  have ctx : PartOk sizes most at_ rr n := ⟨hs, hm, hm2, ha, ha2, r0, r1, n0, by omega, hl2⟩
  by_cases hv : v ≤ 18
  · have key : ∃ xs k', DeckOk l k' ∧ (∀ x ∈ xs, OkIn x ∧ (jumpB x.op = true → x.imm < at_ + xs.length)) ∧ xs.length ≤ 6 ∧ S.runC realP (S.evCall realP ⟨box, ps⟩ F) N partB (stP (encD l k3) sizes most at_ rr n v) = some (.ret, stPr (encD l k') xs) := by
      obtain rfl | rfl | rfl | rfl | rfl | rfl | rfl | rfl | rfl | rfl | rfl | rfl | rfl | rfl | rfl | rfl | rfl | rfl | rfl : v = 0 ∨ v = 1 ∨ v = 2 ∨ v = 3 ∨ v = 4 ∨ v = 5 ∨ v = 6 ∨ v = 7 ∨ v = 8 ∨ v = 9 ∨ v = 10 ∨ v = 11 ∨ v = 12 ∨ v = 13 ∨ v = 14 ∨ v = 15 ∨ v = 16 ∨ v = 17 ∨ v = 18 := by omega
      · exact part_0 box ps F N hb hF l k3 hd3 sizes most at_ rr n ctx
      · exact part_1 box ps F N hb hF l k3 hd3 sizes most at_ rr n ctx
      · exact part_2 box ps F N hb hF l k3 hd3 sizes most at_ rr n ctx
      · exact part_3 box ps F N hb hF l k3 hd3 sizes most at_ rr n ctx
      · exact part_4 box ps F N hb hF l k3 hd3 sizes most at_ rr n ctx
      · exact part_5 box ps F N hb hF l k3 hd3 sizes most at_ rr n ctx
      · exact part_6 box ps F N hb hF l k3 hd3 sizes most at_ rr n ctx
      · exact part_7 box ps F N hb hF l k3 hd3 sizes most at_ rr n ctx
      · exact part_8 box ps F N hb hF l k3 hd3 sizes most at_ rr n ctx
      · exact part_9 box ps F N hb hF l k3 hd3 sizes most at_ rr n ctx
      · exact part_10 box ps F N hb hF l k3 hd3 sizes most at_ rr n ctx
      · exact part_11 box ps F N hb hF l k3 hd3 sizes most at_ rr n ctx
      · exact part_12 box ps F N hb hF l k3 hd3 sizes most at_ rr n ctx
      · exact part_13 box ps F N hb hF l k3 hd3 sizes most at_ rr n ctx
      · exact part_14 box ps F N hb hF l k3 hd3 sizes most at_ rr n ctx
      · exact part_15 box ps F N hb hF l k3 hd3 sizes most at_ rr n ctx
      · exact part_16 box ps F N hb hF l k3 hd3 sizes most at_ rr n ctx
      · exact part_17 box ps F N hb hF l k3 hd3 sizes most at_ rr n ctx
      · exact part_18 box ps F N hb hF l k3 hd3 sizes most at_ rr n ctx
    obtain ⟨xs, k4, hd4, hx, hxl, e1⟩ := key
    exact ⟨xs, k4, part_ret box ps F N hb hF.f3 partB partR _ sizes rfl most at_ rr n v _ rr _ _ _ (l.map encI, (k3 : Int)) (l.map encI, (k4 : Int)) m fr xs e1, hd4, hx, hxl⟩
  · obtain ⟨xs, k4, hd4, hx, hxl, e2⟩ := part_R box ps F N hb hF l k3 hd3 sizes most at_ hma hm hm2 hl hl2
    exact ⟨xs, k4, part_def box ps F N hb hF.f3 partB partR _ sizes rfl most at_ rr n v _ rr _ _ _ (l.map encI, (k3 : Int)) (l.map encI, (k4 : Int)) m fr xs (part_19 box ps F N hb sizes (l.map encI, (k3 : Int)) most at_ rr n v (by omega)) e2, hd4, hx, hxl⟩
end
end Go.Proofs.Ytjmfjjmdfikanaa
