/- Sorted rows of places merged; with no condition. -/
import Derived.Test.YtigaelckdbeecaaGreatDoorStab
import Derived.KernelRfl
namespace Go.Gw
open Go Go.Proofs
set_option linter.unusedSimpArgs false
set_option linter.unusedVariables false
set_option maxRecDepth 100000
def ir86_L1 : Ir := (.seq (.seq (.reg [31, 32] [om 31 10, om 32 11, ob .lss 33 31 32]) (.cond (tt 33) .skip (.exit 0))) (.block 1 (.seq (.reg [34, 35, 36, 37, 38, 39] [om 34 10, om 35 11, ob .add 36 34 35, o 37 (.conv .u64 (tt 36)), o 38 (.bin .shr (tt 37) (.const (.int .u64 1))), o 39 (.conv .i64 (tt 38)), om 12 39]) (.seq (.dreg [40, 41, 42, 43, 44, 45, 46, 47, 48, 49] [0, 0, 0, 6, 14, 0, 0, 96, 224, 511, 1023] [(4, 1044), (8, 1048), (9, 1049), (9, 2049), (9, 3049), (9, 4049), (9, 5049), (9, 6049), (9, 7049), (9, 8049)] [om 40 4, om 41 0, om 42 12, ox 43 41 42, ol 44 43, om 45 0, om 46 1, ox 47 45 46, ol 48 47, o 49 (.callv (tt 40) [(tt 44), (tt 48)]), o 50 (.bin .lss (tt 49) (ci 0))]) (.cond (tt 50) (.reg [51, 52] [om 51 12, o 52 (.bin .add (tt 51) (ci 1)), om 10 52]) (.reg [53] [om 53 12, om 11 53]))))))
def ir86_L2 : Ir := (.seq (.seq (.reg [55, 56, 57] [om 55 13, om 56 10, o 57 (.bin .sub (tt 56) (ci 1)), ob .lss 58 55 57]) (.cond (tt 58) .skip (.exit 2))) (.seq (.block 3 (.dreg [61, 62, 63, 64, 65, 66, 67, 68, 69, 70, 71, 72, 73, 74, 75, 76] [0, 0, 0, 0, 8, 0, 0, 64, 224, 480, 0, 0, 3072, 7168, 16355, 32739, 65535, 131071] [(9, 1070), (13, 1074)] [om 61 0, om 62 13, om 63 0, om 64 13, o 65 (.bin .add (tt 64) (ci 1)), om 66 0, om 67 13, o 68 (.bin .add (tt 67) (ci 1)), ox 69 66 68, ol 70 69, om 71 0, om 72 13, ox 73 71 72, ol 74 73, ox 75 61 62, on (.store 1 (tt 75) (tt 70)), ox 76 63 65, on (.store 1 (tt 76) (tt 74))])) (.reg [59, 60] [om 59 13, o 60 (.bin .add (tt 59) (ci 1)), om 13 60])))
def ir86_T3 : Ir := (.seq (.seq (.reg [54] [om 54 1, om 13 54]) (.block 2 (.loop ir86_L2))) .ret)
def ir86_L4 : Ir := (.seq (.seq (.reg [83, 84] [om 83 14, om 84 15, ob .lss 85 83 84]) (.cond (tt 85) .skip (.exit 4))) (.block 5 (.seq (.reg [86, 87, 88, 89, 90, 91] [om 86 14, om 87 15, ob .add 88 86 87, o 89 (.conv .u64 (tt 88)), o 90 (.bin .shr (tt 89) (.const (.int .u64 1))), o 91 (.conv .i64 (tt 90)), om 16 91]) (.seq (.dreg [92, 93, 94, 95, 96, 97, 98, 99, 100, 101, 102] [0, 0, 0, 6, 14, 0, 0, 96, 224, 511, 1023, 2047] [(4, 1096), (8, 1100), (9, 1101), (9, 2101), (9, 3101), (9, 4101), (9, 5101), (9, 6101), (9, 7101), (9, 8101)] [om 92 4, om 93 0, om 94 2, ox 95 93 94, ol 96 95, om 97 0, om 98 16, ox 99 97 98, ol 100 99, o 101 (.callv (tt 92) [(tt 96), (tt 100)]), o 102 (.bin .lss (tt 101) (ci 0)), o 103 (.un .not (tt 102))]) (.cond (tt 103) (.reg [104, 105] [om 104 16, o 105 (.bin .add (tt 104) (ci 1)), om 14 105]) (.reg [106] [om 106 16, om 15 106]))))))
def ir86_L5 : Ir := (.seq (.seq (.reg [108, 109] [om 108 17, om 109 14, ob .gtr 110 108 109]) (.cond (tt 110) .skip (.exit 6))) (.seq (.block 7 (.dreg [113, 114, 115, 116, 117, 118, 119, 120, 121, 122, 123, 124, 125, 126, 127, 128] [0, 0, 0, 0, 8, 0, 0, 64, 224, 480, 0, 0, 3072, 7168, 16355, 32739, 65535, 131071] [(9, 1122), (13, 1126)] [om 113 0, om 114 17, om 115 0, om 116 17, o 117 (.bin .sub (tt 116) (ci 1)), om 118 0, om 119 17, o 120 (.bin .sub (tt 119) (ci 1)), ox 121 118 120, ol 122 121, om 123 0, om 124 17, ox 125 123 124, ol 126 125, ox 127 113 114, on (.store 1 (tt 127) (tt 122)), ox 128 115 117, on (.store 1 (tt 128) (tt 126))])) (.reg [111, 112] [om 111 17, o 112 (.bin .sub (tt 111) (ci 1)), om 17 112])))
def ir86_T6 : Ir := (.seq (.seq (.reg [107] [om 107 2, om 17 107]) (.block 6 (.loop ir86_L5))) .ret)
def ir86_L7 : Ir := (.seq (.seq (.reg [149, 150] [om 149 20, om 150 21, ob .lss 151 149 150]) (.cond (tt 151) .skip (.exit 8))) (.block 9 (.seq (.reg [152, 153, 154, 155, 156, 157] [om 152 20, om 153 21, ob .add 154 152 153, o 155 (.conv .u64 (tt 154)), o 156 (.bin .shr (tt 155) (.const (.int .u64 1))), o 157 (.conv .i64 (tt 156)), om 23 157]) (.seq (.dreg [158, 159, 160, 161, 162, 163, 164, 165, 166, 167, 168, 169, 170] [0, 0, 0, 0, 12, 30, 62, 0, 0, 384, 896, 2047, 4095, 8191] [(6, 1164), (10, 1168), (11, 1169), (11, 2169), (11, 3169), (11, 4169), (11, 5169), (11, 6169), (11, 7169), (11, 8169)] [om 158 4, om 159 0, om 160 22, om 161 23, ob .sub 162 160 161, ox 163 159 162, ol 164 163, om 165 0, om 166 23, ox 167 165 166, ol 168 167, o 169 (.callv (tt 158) [(tt 164), (tt 168)]), o 170 (.bin .lss (tt 169) (ci 0)), o 171 (.un .not (tt 170))]) (.cond (tt 171) (.reg [172, 173] [om 172 23, o 173 (.bin .add (tt 172) (ci 1)), om 20 173]) (.reg [174] [om 174 23, om 21 174]))))))
def ir86_C1 : Ir := (.seq (.reg [192, 193, 194, 195, 196, 197, 198] [om 192 1, om 193 20, ob .lss 194 192 193, om 195 194, og 196 195 true (.mov (tt 20)), og 197 195 true (.mov (tt 18)), og 198 195 true (.bin .lss (tt 196) (tt 197)), o 199 (.pick (tt 195) (tt 198) (cb false))]) (.cond (tt 199) (.reg [200, 201, 202, 203, 204, 205] [om 200 0, om 201 1, om 202 20, om 203 18, om 204 4, o 205 (.call 86 [(tt 200), (tt 201), (tt 202), (tt 203), (tt 204)])]) .skip))
def ir86_D1 : Ir := (.seq (.reg [206, 207, 208, 209, 210, 211, 212] [om 206 18, om 207 24, ob .lss 208 206 207, om 209 208, og 210 209 true (.mov (tt 24)), og 211 209 true (.mov (tt 3)), og 212 209 true (.bin .lss (tt 210) (tt 211)), o 213 (.pick (tt 209) (tt 212) (cb false))]) (.cond (tt 213) (.reg [214, 215, 216, 217, 218, 219] [om 214 0, om 215 18, om 216 24, om 217 3, om 218 4, o 219 (.call 86 [(tt 214), (tt 215), (tt 216), (tt 217), (tt 218)])]) .skip))
def ir86_T8 : Ir := (.seq (.reg [175, 176, 177] [om 175 19, om 176 20, ob .sub 177 175 176, om 24 177]) (.seq (.seq (.reg [178, 179, 180, 181, 182, 183, 184] [om 178 20, om 179 2, ob .lss 180 178 179, om 181 180, og 182 181 true (.mov (tt 2)), og 183 181 true (.mov (tt 24)), og 184 181 true (.bin .lss (tt 182) (tt 183)), o 185 (.pick (tt 181) (tt 184) (cb false))]) (.cond (tt 185) (.reg [186, 187, 188, 189, 190, 191] [om 186 0, om 187 20, om 188 2, om 189 24, om 190 4, o 191 (.call 98 [(tt 186), (tt 187), (tt 188), (tt 189), (tt 190)])]) .skip)) (.seq ir86_C1 ir86_D1)))
def ir86_T9 : Ir := (.seq (.reg [129, 130, 131, 132, 133, 134] [om 129 1, om 130 3, ob .add 131 129 130, o 132 (.conv .u64 (tt 131)), o 133 (.bin .shr (tt 132) (.const (.int .u64 1))), o 134 (.conv .i64 (tt 133)), om 18 134]) (.seq (.reg [135, 136, 137] [om 135 18, om 136 2, ob .add 137 135 136, om 19 137]) (.seq (.reg [] [o 20 (.mov (ci 0)), o 21 (.mov (ci 0))]) (.seq (.seq (.reg [138, 139] [om 138 2, om 139 18, ob .gtr 140 138 139]) (.cond (tt 140) (.seq (.reg [141, 142, 143] [om 141 19, om 142 3, ob .sub 143 141 142, om 20 143]) (.reg [144] [om 144 18, om 21 144])) (.seq (.reg [145] [om 145 1, om 20 145]) (.reg [146] [om 146 2, om 21 146])))) (.seq (.reg [147, 148] [om 147 19, o 148 (.bin .sub (tt 147) (ci 1)), om 22 148]) (.seq (.block 8 (.loop ir86_L7)) ir86_T8))))))
def ir86_T10 : Ir := (.seq (.seq (.reg [77, 78, 79] [om 77 3, om 78 2, ob .sub 79 77 78, o 80 (.bin .eql (tt 79) (ci 1))]) (.cond (tt 80) (.seq (.reg [81] [om 81 1, om 14 81]) (.seq (.reg [82] [om 82 2, om 15 82]) (.seq (.block 4 (.loop ir86_L4)) ir86_T6))) .skip)) ir86_T9)
def ir86 : Ir := (.seq (.seq (.reg [25, 26, 27] [om 25 2, om 26 1, ob .sub 27 25 26, o 28 (.bin .eql (tt 27) (ci 1))]) (.cond (tt 28) (.seq (.reg [29] [om 29 2, om 10 29]) (.seq (.reg [30] [om 30 3, om 11 30]) (.seq (.block 0 (.loop ir86_L1)) ir86_T3))) .skip)) ir86_T10)
def keep86 : List Nat := [0, 1, 2, 3, 4, 10, 11, 12, 13, 14, 15, 16, 17, 18, 19, 20, 21, 22, 23, 24, 28, 33, 50, 58, 80, 85, 103, 110, 140, 151, 171, 185, 199, 213]
def res86 : List RI := []
theorem chk86 : chk Tryz.prog 86 5 keep86 = some (ir86, res86) := by kernel_rfl
theorem ev_sym : ∀ (s : SK) (N : Nat) (D : Nat → Nat) (a m b : Nat), ev G0 res86 [(0, OR N D)] 3000 (Or.nil.split (Or.nil.split (Or.nil.split Or.nil))) [.ir ir86] (start [.own 0, AI ↑a, AI ↑m, AI ↑b, sgFn s] [(0, OR N D)]) = VC.split (IntKind.i64.wrap ((↑m : Int) - ↑a) == 1) (VC.loop ir86_L1 [.bend 0, .ir ir86_T3, .ir ir86_T10] (St.mk [(0, .own 100000), (1, AI ↑a), (2, AI ↑m), (3, AI ↑b), (4, AV.cl 57 [] [AV.p false (PV.pp ([PV.sl false 1 s.n (TR s.f), PV.sl false 1 s.m (RR s.w s.h), PV.sl false 1 s.m (MK s.r)].length - 0) fun j => [PV.sl false 1 s.n (TR s.f), PV.sl false 1 s.m (RR s.w s.h), PV.sl false 1 s.m (MK s.r)].getD (0 + j) PV.any), AV.p false (PV.pp ([roD s.c s.dn].length - 0) fun j => [roD s.c s.dn].getD (0 + j) PV.any)]), (28, AB (IntKind.i64.wrap ((↑m : Int) - ↑a) == 1)), (10, AI ↑m), (11, AI ↑b)] [(100000, .row .u true 1 N (fun i x => PI (↑(D i) : Int)) [])])) (VC.split (IntKind.i64.wrap ((↑b : Int) - ↑m) == 1) (VC.loop ir86_L4 [.bend 4, .ir ir86_T6, .ir ir86_T9] (St.mk [(0, .own 100000), (1, AI ↑a), (2, AI ↑m), (3, AI ↑b), (4, AV.cl 57 [] [AV.p false (PV.pp ([PV.sl false 1 s.n (TR s.f), PV.sl false 1 s.m (RR s.w s.h), PV.sl false 1 s.m (MK s.r)].length - 0) fun j => [PV.sl false 1 s.n (TR s.f), PV.sl false 1 s.m (RR s.w s.h), PV.sl false 1 s.m (MK s.r)].getD (0 + j) PV.any), AV.p false (PV.pp ([roD s.c s.dn].length - 0) fun j => [roD s.c s.dn].getD (0 + j) PV.any)]), (28, AB (IntKind.i64.wrap ((↑m : Int) - ↑a) == 1)), (80, AB (IntKind.i64.wrap ((↑b : Int) - ↑m) == 1)), (14, AI ↑a), (15, AI ↑m)] [(100000, .row .u true 1 N (fun i x => PI (↑(D i) : Int)) [])])) (VC.need ((0 : Int) ≤ 1) (VC.split (decide (IntKind.i64.wrap ((IntKind.u64.wrap (IntKind.i64.wrap ((↑a : Int) + ↑b))).fdiv (2 ^ min (Int.toNat 1) IntKind.u64.bits)) < (↑m : Int))) (VC.loop ir86_L7 [.bend 8, .ir ir86_T8] (St.mk [(0, .own 100000), (1, AI ↑a), (2, AI ↑m), (3, AI ↑b), (4, AV.cl 57 [] [AV.p false (PV.pp ([PV.sl false 1 s.n (TR s.f), PV.sl false 1 s.m (RR s.w s.h), PV.sl false 1 s.m (MK s.r)].length - 0) fun j => [PV.sl false 1 s.n (TR s.f), PV.sl false 1 s.m (RR s.w s.h), PV.sl false 1 s.m (MK s.r)].getD (0 + j) PV.any), AV.p false (PV.pp ([roD s.c s.dn].length - 0) fun j => [roD s.c s.dn].getD (0 + j) PV.any)]), (28, AB (IntKind.i64.wrap ((↑m : Int) - ↑a) == 1)), (80, AB (IntKind.i64.wrap ((↑b : Int) - ↑m) == 1)), (18, AI (IntKind.i64.wrap ((IntKind.u64.wrap (IntKind.i64.wrap ((↑a : Int) + ↑b))).fdiv (2 ^ min (Int.toNat 1) IntKind.u64.bits)))), (19, AI (IntKind.i64.wrap (IntKind.i64.wrap ((IntKind.u64.wrap (IntKind.i64.wrap ((↑a : Int) + ↑b))).fdiv (2 ^ min (Int.toNat 1) IntKind.u64.bits)) + (↑m : Int)))), (20, AI (IntKind.i64.wrap (IntKind.i64.wrap (IntKind.i64.wrap ((IntKind.u64.wrap (IntKind.i64.wrap ((↑a : Int) + ↑b))).fdiv (2 ^ min (Int.toNat 1) IntKind.u64.bits)) + (↑m : Int)) - (↑b : Int)))), (21, AI (IntKind.i64.wrap ((IntKind.u64.wrap (IntKind.i64.wrap ((↑a : Int) + ↑b))).fdiv (2 ^ min (Int.toNat 1) IntKind.u64.bits)))), (140, AB (decide (IntKind.i64.wrap ((IntKind.u64.wrap (IntKind.i64.wrap ((↑a : Int) + ↑b))).fdiv (2 ^ min (Int.toNat 1) IntKind.u64.bits)) < (↑m : Int)))), (22, AI (IntKind.i64.wrap (IntKind.i64.wrap (IntKind.i64.wrap ((IntKind.u64.wrap (IntKind.i64.wrap ((↑a : Int) + ↑b))).fdiv (2 ^ min (Int.toNat 1) IntKind.u64.bits)) + (↑m : Int)) - 1)))] [(100000, .row .u true 1 N (fun i x => PI (↑(D i) : Int)) [])])) (VC.loop ir86_L7 [.bend 8, .ir ir86_T8] (St.mk [(0, .own 100000), (1, AI ↑a), (2, AI ↑m), (3, AI ↑b), (4, AV.cl 57 [] [AV.p false (PV.pp ([PV.sl false 1 s.n (TR s.f), PV.sl false 1 s.m (RR s.w s.h), PV.sl false 1 s.m (MK s.r)].length - 0) fun j => [PV.sl false 1 s.n (TR s.f), PV.sl false 1 s.m (RR s.w s.h), PV.sl false 1 s.m (MK s.r)].getD (0 + j) PV.any), AV.p false (PV.pp ([roD s.c s.dn].length - 0) fun j => [roD s.c s.dn].getD (0 + j) PV.any)]), (28, AB (IntKind.i64.wrap ((↑m : Int) - ↑a) == 1)), (80, AB (IntKind.i64.wrap ((↑b : Int) - ↑m) == 1)), (18, AI (IntKind.i64.wrap ((IntKind.u64.wrap (IntKind.i64.wrap ((↑a : Int) + ↑b))).fdiv (2 ^ min (Int.toNat 1) IntKind.u64.bits)))), (19, AI (IntKind.i64.wrap (IntKind.i64.wrap ((IntKind.u64.wrap (IntKind.i64.wrap ((↑a : Int) + ↑b))).fdiv (2 ^ min (Int.toNat 1) IntKind.u64.bits)) + (↑m : Int)))), (20, AI ↑a), (21, AI ↑m), (140, AB (decide (IntKind.i64.wrap ((IntKind.u64.wrap (IntKind.i64.wrap ((↑a : Int) + ↑b))).fdiv (2 ^ min (Int.toNat 1) IntKind.u64.bits)) < (↑m : Int)))), (22, AI (IntKind.i64.wrap (IntKind.i64.wrap (IntKind.i64.wrap ((IntKind.u64.wrap (IntKind.i64.wrap ((↑a : Int) + ↑b))).fdiv (2 ^ min (Int.toNat 1) IntKind.u64.bits)) + (↑m : Int)) - 1)))] [(100000, .row .u true 1 N (fun i x => PI (↑(D i) : Int)) [])]))))) := by intros; kernel_rfl
def st_sy1 (s : SK) (N : Nat) (D : Nat → Nat) (a : Nat) (x : Nat × Nat) : St := ⟨[(0, .own 100000), (1, AI a), (4, sgFn s), (10, AI x.1), (11, AI x.2)], [(100000, OR N D)]⟩
theorem evr_sy1 : ∀ (s : SK) (N : Nat) (D : Nat → Nat) (a : Nat) (I : Nat × Nat → St → Prop) (x : Nat × Nat), ev G0 res86 [(0, OR N D)] 3000 ((Or.call [] (AI (ordX s.c s.dn (sgK s (D (IntKind.i64.wrap ((IntKind.u64.wrap (IntKind.i64.wrap ((↑x.1 : Int) + ↑x.2))).fdiv (2 ^ min (Int.toNat 1) IntKind.u64.bits))).toNat)) (sgK s (D a)))) [] (Or.nil.split Or.nil)).split Or.nil) [.ir ir86_L1, .lend (I x), .bend 0, .ir ir86_T3, .ir ir86_T10] (st_sy1 s N D a x) = VC.split (decide ((↑x.1 : Int) < ↑x.2)) (VC.need ((0 : Int) ≤ 1) (VC.need (0 ≤ IntKind.i64.wrap ((IntKind.u64.wrap (IntKind.i64.wrap ((↑x.1 : Int) + ↑x.2))).fdiv (2 ^ min (Int.toNat 1) IntKind.u64.bits)) ∧ (IntKind.i64.wrap ((IntKind.u64.wrap (IntKind.i64.wrap ((↑x.1 : Int) + ↑x.2))).fdiv (2 ^ min (Int.toNat 1) IntKind.u64.bits))).toNat < N) (VC.need ((IntKind.i64.wrap ((IntKind.u64.wrap (IntKind.i64.wrap ((↑x.1 : Int) + ↑x.2))).fdiv (2 ^ min (Int.toNat 1) IntKind.u64.bits))).toNat < N) (VC.need (0 ≤ (↑a : Int) ∧ a < N) (VC.need (a < N) (VC.call 57 [AI (↑(D (IntKind.i64.wrap ((IntKind.u64.wrap (IntKind.i64.wrap ((↑x.1 : Int) + ↑x.2))).fdiv (2 ^ min (Int.toNat 1) IntKind.u64.bits))).toNat) : Int), AI (↑(D a) : Int), AV.p false (PV.pp ([PV.sl false 1 s.n (TR s.f), PV.sl false 1 s.m (RR s.w s.h), PV.sl false 1 s.m (MK s.r)].length - 0) fun j => [PV.sl false 1 s.n (TR s.f), PV.sl false 1 s.m (RR s.w s.h), PV.sl false 1 s.m (MK s.r)].getD (0 + j) PV.any), AV.p false (PV.pp ([roD s.c s.dn].length - 0) fun j => [roD s.c s.dn].getD (0 + j) PV.any)] [] (AI (ordX s.c s.dn (sgK s (D (IntKind.i64.wrap ((IntKind.u64.wrap (IntKind.i64.wrap ((↑x.1 : Int) + ↑x.2))).fdiv (2 ^ min (Int.toNat 1) IntKind.u64.bits))).toNat)) (sgK s (D a)))) [] (VC.split (decide (ordX s.c s.dn (sgK s (D (IntKind.i64.wrap ((IntKind.u64.wrap (IntKind.i64.wrap ((↑x.1 : Int) + ↑x.2))).fdiv (2 ^ min (Int.toNat 1) IntKind.u64.bits))).toNat)) (sgK s (D a)) < 0)) (VC.lend (I x) (St.mk [(0, .own 100000), (1, AI ↑a), (4, AV.cl 57 [] [AV.p false (PV.pp ([PV.sl false 1 s.n (TR s.f), PV.sl false 1 s.m (RR s.w s.h), PV.sl false 1 s.m (MK s.r)].length - 0) fun j => [PV.sl false 1 s.n (TR s.f), PV.sl false 1 s.m (RR s.w s.h), PV.sl false 1 s.m (MK s.r)].getD (0 + j) PV.any), AV.p false (PV.pp ([roD s.c s.dn].length - 0) fun j => [roD s.c s.dn].getD (0 + j) PV.any)]), (10, AI (IntKind.i64.wrap (IntKind.i64.wrap ((IntKind.u64.wrap (IntKind.i64.wrap ((↑x.1 : Int) + ↑x.2))).fdiv (2 ^ min (Int.toNat 1) IntKind.u64.bits)) + 1))), (11, AI ↑x.2), (33, AB (decide ((↑x.1 : Int) < ↑x.2))), (12, AI (IntKind.i64.wrap ((IntKind.u64.wrap (IntKind.i64.wrap ((↑x.1 : Int) + ↑x.2))).fdiv (2 ^ min (Int.toNat 1) IntKind.u64.bits)))), (50, AB (decide (ordX s.c s.dn (sgK s (D (IntKind.i64.wrap ((IntKind.u64.wrap (IntKind.i64.wrap ((↑x.1 : Int) + ↑x.2))).fdiv (2 ^ min (Int.toNat 1) IntKind.u64.bits))).toNat)) (sgK s (D a)) < 0)))] [(100000, .row .u true 1 N (fun i x_1 => PI (↑(D i) : Int)) [])])) (VC.lend (I x) (St.mk [(0, .own 100000), (1, AI ↑a), (4, AV.cl 57 [] [AV.p false (PV.pp ([PV.sl false 1 s.n (TR s.f), PV.sl false 1 s.m (RR s.w s.h), PV.sl false 1 s.m (MK s.r)].length - 0) fun j => [PV.sl false 1 s.n (TR s.f), PV.sl false 1 s.m (RR s.w s.h), PV.sl false 1 s.m (MK s.r)].getD (0 + j) PV.any), AV.p false (PV.pp ([roD s.c s.dn].length - 0) fun j => [roD s.c s.dn].getD (0 + j) PV.any)]), (10, AI ↑x.1), (11, AI (IntKind.i64.wrap ((IntKind.u64.wrap (IntKind.i64.wrap ((↑x.1 : Int) + ↑x.2))).fdiv (2 ^ min (Int.toNat 1) IntKind.u64.bits)))), (33, AB (decide ((↑x.1 : Int) < ↑x.2))), (12, AI (IntKind.i64.wrap ((IntKind.u64.wrap (IntKind.i64.wrap ((↑x.1 : Int) + ↑x.2))).fdiv (2 ^ min (Int.toNat 1) IntKind.u64.bits)))), (50, AB (decide (ordX s.c s.dn (sgK s (D (IntKind.i64.wrap ((IntKind.u64.wrap (IntKind.i64.wrap ((↑x.1 : Int) + ↑x.2))).fdiv (2 ^ min (Int.toNat 1) IntKind.u64.bits))).toNat)) (sgK s (D a)) < 0)))] [(100000, .row .u true 1 N (fun i x_1 => PI (↑(D i) : Int)) [])]))))))))) (VC.loop ir86_L2 [.bend 2, .ir Ir.ret, .ir ir86_T10] (St.mk [(0, .own 100000), (1, AI ↑a), (4, AV.cl 57 [] [AV.p false (PV.pp ([PV.sl false 1 s.n (TR s.f), PV.sl false 1 s.m (RR s.w s.h), PV.sl false 1 s.m (MK s.r)].length - 0) fun j => [PV.sl false 1 s.n (TR s.f), PV.sl false 1 s.m (RR s.w s.h), PV.sl false 1 s.m (MK s.r)].getD (0 + j) PV.any), AV.p false (PV.pp ([roD s.c s.dn].length - 0) fun j => [roD s.c s.dn].getD (0 + j) PV.any)]), (10, AI ↑x.1), (11, AI ↑x.2), (33, AB (decide ((↑x.1 : Int) < ↑x.2))), (13, AI ↑a)] [(100000, .row .u true 1 N (fun i x_1 => PI (↑(D i) : Int)) [])])) := by intros; kernel_rfl
def st_sy2 (N i : Nat) (x : Nat × (Nat → Nat)) : St := ⟨[(0, .own 100000), (10, AI i), (13, AI x.1)], [(100000, OR N x.2)]⟩
theorem evr_sy2 : ∀ (N : Nat) (D : Nat → Nat) (i : Nat) (I : Nat × (Nat → Nat) → St → Prop) (x : Nat × (Nat → Nat)), ev G0 res86 [(0, OR N D)] 3000 (Or.nil.split Or.nil) [.ir ir86_L2, .lend (I x), .bend 2, .ir Ir.ret, .ir ir86_T10] (st_sy2 N i x) = VC.split (decide ((↑x.1 : Int) < IntKind.i64.wrap ((↑i : Int) - 1))) (VC.need (0 ≤ IntKind.i64.wrap ((↑x.1 : Int) + 1) ∧ (IntKind.i64.wrap ((↑x.1 : Int) + 1)).toNat < N) (VC.need ((IntKind.i64.wrap ((↑x.1 : Int) + 1)).toNat < N) (VC.need (0 ≤ (↑x.1 : Int) ∧ x.1 < N) (VC.need (x.1 < N) (VC.need (0 ≤ (↑x.1 : Int) ∧ x.1 < N) (VC.need (x.1 < N) (VC.need (0 ≤ IntKind.i64.wrap ((↑x.1 : Int) + 1) ∧ (IntKind.i64.wrap ((↑x.1 : Int) + 1)).toNat < N) (VC.need ((IntKind.i64.wrap ((↑x.1 : Int) + 1)).toNat < N) (VC.lend (I x) (St.mk [(0, .own 100000), (10, AI ↑i), (13, AI (IntKind.i64.wrap ((↑x.1 : Int) + 1))), (58, AB (decide ((↑x.1 : Int) < IntKind.i64.wrap ((↑i : Int) - 1))))] [(100000, .row .u true 1 N (setG [((IntKind.i64.wrap ((↑x.1 : Int) + 1)).toNat, 0, PV.v (Value.int IntKind.i64 (↑(x.2 x.1) : Int)))] (setG [(x.1, 0, PV.v (Value.int IntKind.i64 (↑(x.2 (IntKind.i64.wrap ((↑x.1 : Int) + 1)).toNat) : Int)))] fun i_1 x_1 => PI (↑(x.2 i_1) : Int))) [])])))))))))) (VC.done (St.mk [(0, .own 100000), (10, AI ↑i), (13, AI ↑x.1), (58, AB (decide ((↑x.1 : Int) < IntKind.i64.wrap ((↑i : Int) - 1))))] [(100000, .row .u true 1 N (fun i_1 x_1 => PI (↑(x.2 i_1) : Int)) [])])) := by intros; kernel_rfl
def st_sy4 (s : SK) (N : Nat) (D : Nat → Nat) (m : Nat) (x : Nat × Nat) : St := ⟨[(0, .own 100000), (2, AI m), (4, sgFn s), (14, AI x.1), (15, AI x.2)], [(100000, OR N D)]⟩
theorem evr_sy4 : ∀ (s : SK) (N : Nat) (D : Nat → Nat) (m : Nat) (I : Nat × Nat → St → Prop) (x : Nat × Nat), ev G0 res86 [(0, OR N D)] 3000 ((Or.call [] (AI (ordX s.c s.dn (sgK s (D m)) (sgK s (D (IntKind.i64.wrap ((IntKind.u64.wrap (IntKind.i64.wrap ((↑x.1 : Int) + ↑x.2))).fdiv (2 ^ min (Int.toNat 1) IntKind.u64.bits))).toNat)))) [] (Or.nil.split Or.nil)).split Or.nil) [.ir ir86_L4, .lend (I x), .bend 4, .ir ir86_T6, .ir ir86_T9] (st_sy4 s N D m x) = VC.split (decide ((↑x.1 : Int) < ↑x.2)) (VC.need ((0 : Int) ≤ 1) (VC.need (0 ≤ (↑m : Int) ∧ m < N) (VC.need (m < N) (VC.need (0 ≤ IntKind.i64.wrap ((IntKind.u64.wrap (IntKind.i64.wrap ((↑x.1 : Int) + ↑x.2))).fdiv (2 ^ min (Int.toNat 1) IntKind.u64.bits)) ∧ (IntKind.i64.wrap ((IntKind.u64.wrap (IntKind.i64.wrap ((↑x.1 : Int) + ↑x.2))).fdiv (2 ^ min (Int.toNat 1) IntKind.u64.bits))).toNat < N) (VC.need ((IntKind.i64.wrap ((IntKind.u64.wrap (IntKind.i64.wrap ((↑x.1 : Int) + ↑x.2))).fdiv (2 ^ min (Int.toNat 1) IntKind.u64.bits))).toNat < N) (VC.call 57 [AI (↑(D m) : Int), AI (↑(D (IntKind.i64.wrap ((IntKind.u64.wrap (IntKind.i64.wrap ((↑x.1 : Int) + ↑x.2))).fdiv (2 ^ min (Int.toNat 1) IntKind.u64.bits))).toNat) : Int), AV.p false (PV.pp ([PV.sl false 1 s.n (TR s.f), PV.sl false 1 s.m (RR s.w s.h), PV.sl false 1 s.m (MK s.r)].length - 0) fun j => [PV.sl false 1 s.n (TR s.f), PV.sl false 1 s.m (RR s.w s.h), PV.sl false 1 s.m (MK s.r)].getD (0 + j) PV.any), AV.p false (PV.pp ([roD s.c s.dn].length - 0) fun j => [roD s.c s.dn].getD (0 + j) PV.any)] [] (AI (ordX s.c s.dn (sgK s (D m)) (sgK s (D (IntKind.i64.wrap ((IntKind.u64.wrap (IntKind.i64.wrap ((↑x.1 : Int) + ↑x.2))).fdiv (2 ^ min (Int.toNat 1) IntKind.u64.bits))).toNat)))) [] (VC.split (!decide (ordX s.c s.dn (sgK s (D m)) (sgK s (D (IntKind.i64.wrap ((IntKind.u64.wrap (IntKind.i64.wrap ((↑x.1 : Int) + ↑x.2))).fdiv (2 ^ min (Int.toNat 1) IntKind.u64.bits))).toNat)) < 0)) (VC.lend (I x) (St.mk [(0, .own 100000), (2, AI ↑m), (4, AV.cl 57 [] [AV.p false (PV.pp ([PV.sl false 1 s.n (TR s.f), PV.sl false 1 s.m (RR s.w s.h), PV.sl false 1 s.m (MK s.r)].length - 0) fun j => [PV.sl false 1 s.n (TR s.f), PV.sl false 1 s.m (RR s.w s.h), PV.sl false 1 s.m (MK s.r)].getD (0 + j) PV.any), AV.p false (PV.pp ([roD s.c s.dn].length - 0) fun j => [roD s.c s.dn].getD (0 + j) PV.any)]), (14, AI (IntKind.i64.wrap (IntKind.i64.wrap ((IntKind.u64.wrap (IntKind.i64.wrap ((↑x.1 : Int) + ↑x.2))).fdiv (2 ^ min (Int.toNat 1) IntKind.u64.bits)) + 1))), (15, AI ↑x.2), (85, AB (decide ((↑x.1 : Int) < ↑x.2))), (16, AI (IntKind.i64.wrap ((IntKind.u64.wrap (IntKind.i64.wrap ((↑x.1 : Int) + ↑x.2))).fdiv (2 ^ min (Int.toNat 1) IntKind.u64.bits)))), (103, AB !decide (ordX s.c s.dn (sgK s (D m)) (sgK s (D (IntKind.i64.wrap ((IntKind.u64.wrap (IntKind.i64.wrap ((↑x.1 : Int) + ↑x.2))).fdiv (2 ^ min (Int.toNat 1) IntKind.u64.bits))).toNat)) < 0))] [(100000, .row .u true 1 N (fun i x_1 => PI (↑(D i) : Int)) [])])) (VC.lend (I x) (St.mk [(0, .own 100000), (2, AI ↑m), (4, AV.cl 57 [] [AV.p false (PV.pp ([PV.sl false 1 s.n (TR s.f), PV.sl false 1 s.m (RR s.w s.h), PV.sl false 1 s.m (MK s.r)].length - 0) fun j => [PV.sl false 1 s.n (TR s.f), PV.sl false 1 s.m (RR s.w s.h), PV.sl false 1 s.m (MK s.r)].getD (0 + j) PV.any), AV.p false (PV.pp ([roD s.c s.dn].length - 0) fun j => [roD s.c s.dn].getD (0 + j) PV.any)]), (14, AI ↑x.1), (15, AI (IntKind.i64.wrap ((IntKind.u64.wrap (IntKind.i64.wrap ((↑x.1 : Int) + ↑x.2))).fdiv (2 ^ min (Int.toNat 1) IntKind.u64.bits)))), (85, AB (decide ((↑x.1 : Int) < ↑x.2))), (16, AI (IntKind.i64.wrap ((IntKind.u64.wrap (IntKind.i64.wrap ((↑x.1 : Int) + ↑x.2))).fdiv (2 ^ min (Int.toNat 1) IntKind.u64.bits)))), (103, AB !decide (ordX s.c s.dn (sgK s (D m)) (sgK s (D (IntKind.i64.wrap ((IntKind.u64.wrap (IntKind.i64.wrap ((↑x.1 : Int) + ↑x.2))).fdiv (2 ^ min (Int.toNat 1) IntKind.u64.bits))).toNat)) < 0))] [(100000, .row .u true 1 N (fun i x_1 => PI (↑(D i) : Int)) [])]))))))))) (VC.loop ir86_L5 [.bend 6, .ir Ir.ret, .ir ir86_T9] (St.mk [(0, .own 100000), (2, AI ↑m), (4, AV.cl 57 [] [AV.p false (PV.pp ([PV.sl false 1 s.n (TR s.f), PV.sl false 1 s.m (RR s.w s.h), PV.sl false 1 s.m (MK s.r)].length - 0) fun j => [PV.sl false 1 s.n (TR s.f), PV.sl false 1 s.m (RR s.w s.h), PV.sl false 1 s.m (MK s.r)].getD (0 + j) PV.any), AV.p false (PV.pp ([roD s.c s.dn].length - 0) fun j => [roD s.c s.dn].getD (0 + j) PV.any)]), (14, AI ↑x.1), (15, AI ↑x.2), (85, AB (decide ((↑x.1 : Int) < ↑x.2))), (17, AI ↑m)] [(100000, .row .u true 1 N (fun i x_1 => PI (↑(D i) : Int)) [])])) := by intros; kernel_rfl
def st_sy5 (N i : Nat) (x : Nat × (Nat → Nat)) : St := ⟨[(0, .own 100000), (14, AI i), (17, AI x.1)], [(100000, OR N x.2)]⟩
theorem evr_sy5 : ∀ (N : Nat) (D : Nat → Nat) (i : Nat) (I : Nat × (Nat → Nat) → St → Prop) (x : Nat × (Nat → Nat)), ev G0 res86 [(0, OR N D)] 3000 (Or.nil.split Or.nil) [.ir ir86_L5, .lend (I x), .bend 6, .ir Ir.ret, .ir ir86_T9] (st_sy5 N i x) = VC.split (decide ((↑i : Int) < ↑x.1)) (VC.need (0 ≤ IntKind.i64.wrap ((↑x.1 : Int) - 1) ∧ (IntKind.i64.wrap ((↑x.1 : Int) - 1)).toNat < N) (VC.need ((IntKind.i64.wrap ((↑x.1 : Int) - 1)).toNat < N) (VC.need (0 ≤ (↑x.1 : Int) ∧ x.1 < N) (VC.need (x.1 < N) (VC.need (0 ≤ (↑x.1 : Int) ∧ x.1 < N) (VC.need (x.1 < N) (VC.need (0 ≤ IntKind.i64.wrap ((↑x.1 : Int) - 1) ∧ (IntKind.i64.wrap ((↑x.1 : Int) - 1)).toNat < N) (VC.need ((IntKind.i64.wrap ((↑x.1 : Int) - 1)).toNat < N) (VC.lend (I x) (St.mk [(0, .own 100000), (14, AI ↑i), (17, AI (IntKind.i64.wrap ((↑x.1 : Int) - 1))), (110, AB (decide ((↑i : Int) < ↑x.1)))] [(100000, .row .u true 1 N (setG [((IntKind.i64.wrap ((↑x.1 : Int) - 1)).toNat, 0, PV.v (Value.int IntKind.i64 (↑(x.2 x.1) : Int)))] (setG [(x.1, 0, PV.v (Value.int IntKind.i64 (↑(x.2 (IntKind.i64.wrap ((↑x.1 : Int) - 1)).toNat) : Int)))] fun i_1 x_1 => PI (↑(x.2 i_1) : Int))) [])])))))))))) (VC.done (St.mk [(0, .own 100000), (14, AI ↑i), (17, AI ↑x.1), (110, AB (decide ((↑i : Int) < ↑x.1)))] [(100000, .row .u true 1 N (fun i_1 x_1 => PI (↑(x.2 i_1) : Int)) [])])) := by intros; kernel_rfl
def SymH (s : SK) (N d : Nat) : Prop := ∀ (D : Nat → Nat) (a m b : Nat), b - a < d → a < m → m < b → b ≤ N → (∀ i, i < N → D i < s.m) → SrtS (sgL s) (sgK s) a m D → SrtS (sgL s) (sgK s) m b D →
  PSome Tryz.prog G0 86 [.own 0, AI a, AI m, AI b, sgFn s] [(0, OR N D)] (Nat → Nat) (fun D' => SegP a b D D' ∧ SrtS (sgL s) (sgK s) a b D') (fun _ => .tp []) (fun D' => [(0, OR N D')])
theorem c_symI (s : SK) (N d : Nat) (D : Nat → Nat) (a m b : Int) (h : SymH s N d ∧ 0 ≤ a ∧ a < m ∧ m < b ∧ b ≤ N ∧ b - a < d ∧ (∀ i, i < N → D i < s.m) ∧ SrtS (sgL s) (sgK s) a.toNat m.toNat D ∧ SrtS (sgL s) (sgK s) m.toNat b.toNat D) :
    PSome Tryz.prog G0 86 [.own 0, AI a, AI m, AI b, sgFn s] [(0, OR N D)] (Nat → Nat) (fun D' => SegP a.toNat b.toNat D D' ∧ SrtS (sgL s) (sgK s) a.toNat b.toNat D') (fun _ => .tp []) (fun D' => [(0, OR N D')]) := by
  obtain ⟨a, rfl⟩ : ∃ k : Nat, a = k := ⟨a.toNat, by omega⟩
  obtain ⟨m, rfl⟩ : ∃ k : Nat, m = k := ⟨m.toNat, by omega⟩
  obtain ⟨b, rfl⟩ : ∃ k : Nat, b = k := ⟨b.toNat, by omega⟩
  obtain ⟨h0, h1, h2, h3, h4, h5, h6, h7, h8⟩ := h
  exact h0 D a m b (by omega) (by omega) (by omega) (by omega) h6 h7 h8
def st_sy7 (s : SK) (N : Nat) (D : Nat → Nat) (a m b mid n p : Nat) (x : Nat × Nat) : St := ⟨[(0, .own 100000), (1, AI a), (2, AI m), (3, AI b), (4, sgFn s), (18, AI mid), (19, AI n), (20, AI x.1), (21, AI x.2), (22, AI p)], [(100000, OR N D)]⟩
theorem evr_sy7 : ∀ (s : SK) (N : Nat) (D : Nat → Nat) (a m b mid n p : Nat) (I : Nat × Nat → St → Prop) (x : Nat × Nat), ev G0 res86 [(0, OR N D)] 3000 ((Or.call [] (AI (ordX s.c s.dn (sgK s (D (IntKind.i64.wrap ((↑p : Int) - IntKind.i64.wrap ((IntKind.u64.wrap (IntKind.i64.wrap ((↑x.1 : Int) + ↑x.2))).fdiv (2 ^ min (Int.toNat 1) IntKind.u64.bits)))).toNat)) (sgK s (D (IntKind.i64.wrap ((IntKind.u64.wrap (IntKind.i64.wrap ((↑x.1 : Int) + ↑x.2))).fdiv (2 ^ min (Int.toNat 1) IntKind.u64.bits))).toNat)))) [] (Or.nil.split Or.nil)).split (((Or.call [100000] (AV.tp []) [(0, OR N (rotF D x.1 m (IntKind.i64.wrap ((↑n : Int) - ↑x.1)).toNat))] (Or.stop 3)).split (Or.stop 2)).lit.lit.lit.split (Or.stop 2).lit.lit.lit.lit)) [.ir ir86_L7, .lend (I x), .bend 8, .ir ir86_T8] (st_sy7 s N D a m b mid n p x) = VC.split (decide ((↑x.1 : Int) < ↑x.2)) (VC.need ((0 : Int) ≤ 1) (VC.need (0 ≤ IntKind.i64.wrap ((↑p : Int) - IntKind.i64.wrap ((IntKind.u64.wrap (IntKind.i64.wrap ((↑x.1 : Int) + ↑x.2))).fdiv (2 ^ min (Int.toNat 1) IntKind.u64.bits))) ∧ (IntKind.i64.wrap ((↑p : Int) - IntKind.i64.wrap ((IntKind.u64.wrap (IntKind.i64.wrap ((↑x.1 : Int) + ↑x.2))).fdiv (2 ^ min (Int.toNat 1) IntKind.u64.bits)))).toNat < N) (VC.need ((IntKind.i64.wrap ((↑p : Int) - IntKind.i64.wrap ((IntKind.u64.wrap (IntKind.i64.wrap ((↑x.1 : Int) + ↑x.2))).fdiv (2 ^ min (Int.toNat 1) IntKind.u64.bits)))).toNat < N) (VC.need (0 ≤ IntKind.i64.wrap ((IntKind.u64.wrap (IntKind.i64.wrap ((↑x.1 : Int) + ↑x.2))).fdiv (2 ^ min (Int.toNat 1) IntKind.u64.bits)) ∧ (IntKind.i64.wrap ((IntKind.u64.wrap (IntKind.i64.wrap ((↑x.1 : Int) + ↑x.2))).fdiv (2 ^ min (Int.toNat 1) IntKind.u64.bits))).toNat < N) (VC.need ((IntKind.i64.wrap ((IntKind.u64.wrap (IntKind.i64.wrap ((↑x.1 : Int) + ↑x.2))).fdiv (2 ^ min (Int.toNat 1) IntKind.u64.bits))).toNat < N) (VC.call 57 [AI (↑(D (IntKind.i64.wrap ((↑p : Int) - IntKind.i64.wrap ((IntKind.u64.wrap (IntKind.i64.wrap ((↑x.1 : Int) + ↑x.2))).fdiv (2 ^ min (Int.toNat 1) IntKind.u64.bits)))).toNat) : Int), AI (↑(D (IntKind.i64.wrap ((IntKind.u64.wrap (IntKind.i64.wrap ((↑x.1 : Int) + ↑x.2))).fdiv (2 ^ min (Int.toNat 1) IntKind.u64.bits))).toNat) : Int), AV.p false (PV.pp ([PV.sl false 1 s.n (TR s.f), PV.sl false 1 s.m (RR s.w s.h), PV.sl false 1 s.m (MK s.r)].length - 0) fun j => [PV.sl false 1 s.n (TR s.f), PV.sl false 1 s.m (RR s.w s.h), PV.sl false 1 s.m (MK s.r)].getD (0 + j) PV.any), AV.p false (PV.pp ([roD s.c s.dn].length - 0) fun j => [roD s.c s.dn].getD (0 + j) PV.any)] [] (AI (ordX s.c s.dn (sgK s (D (IntKind.i64.wrap ((↑p : Int) - IntKind.i64.wrap ((IntKind.u64.wrap (IntKind.i64.wrap ((↑x.1 : Int) + ↑x.2))).fdiv (2 ^ min (Int.toNat 1) IntKind.u64.bits)))).toNat)) (sgK s (D (IntKind.i64.wrap ((IntKind.u64.wrap (IntKind.i64.wrap ((↑x.1 : Int) + ↑x.2))).fdiv (2 ^ min (Int.toNat 1) IntKind.u64.bits))).toNat)))) [] (VC.split (!decide (ordX s.c s.dn (sgK s (D (IntKind.i64.wrap ((↑p : Int) - IntKind.i64.wrap ((IntKind.u64.wrap (IntKind.i64.wrap ((↑x.1 : Int) + ↑x.2))).fdiv (2 ^ min (Int.toNat 1) IntKind.u64.bits)))).toNat)) (sgK s (D (IntKind.i64.wrap ((IntKind.u64.wrap (IntKind.i64.wrap ((↑x.1 : Int) + ↑x.2))).fdiv (2 ^ min (Int.toNat 1) IntKind.u64.bits))).toNat)) < 0)) (VC.lend (I x) (St.mk [(0, .own 100000), (1, AI ↑a), (2, AI ↑m), (3, AI ↑b), (4, AV.cl 57 [] [AV.p false (PV.pp ([PV.sl false 1 s.n (TR s.f), PV.sl false 1 s.m (RR s.w s.h), PV.sl false 1 s.m (MK s.r)].length - 0) fun j => [PV.sl false 1 s.n (TR s.f), PV.sl false 1 s.m (RR s.w s.h), PV.sl false 1 s.m (MK s.r)].getD (0 + j) PV.any), AV.p false (PV.pp ([roD s.c s.dn].length - 0) fun j => [roD s.c s.dn].getD (0 + j) PV.any)]), (18, AI ↑mid), (19, AI ↑n), (20, AI (IntKind.i64.wrap (IntKind.i64.wrap ((IntKind.u64.wrap (IntKind.i64.wrap ((↑x.1 : Int) + ↑x.2))).fdiv (2 ^ min (Int.toNat 1) IntKind.u64.bits)) + 1))), (21, AI ↑x.2), (22, AI ↑p), (151, AB (decide ((↑x.1 : Int) < ↑x.2))), (23, AI (IntKind.i64.wrap ((IntKind.u64.wrap (IntKind.i64.wrap ((↑x.1 : Int) + ↑x.2))).fdiv (2 ^ min (Int.toNat 1) IntKind.u64.bits)))), (171, AB !decide (ordX s.c s.dn (sgK s (D (IntKind.i64.wrap ((↑p : Int) - IntKind.i64.wrap ((IntKind.u64.wrap (IntKind.i64.wrap ((↑x.1 : Int) + ↑x.2))).fdiv (2 ^ min (Int.toNat 1) IntKind.u64.bits)))).toNat)) (sgK s (D (IntKind.i64.wrap ((IntKind.u64.wrap (IntKind.i64.wrap ((↑x.1 : Int) + ↑x.2))).fdiv (2 ^ min (Int.toNat 1) IntKind.u64.bits))).toNat)) < 0))] [(100000, .row .u true 1 N (fun i x_1 => PI (↑(D i) : Int)) [])])) (VC.lend (I x) (St.mk [(0, .own 100000), (1, AI ↑a), (2, AI ↑m), (3, AI ↑b), (4, AV.cl 57 [] [AV.p false (PV.pp ([PV.sl false 1 s.n (TR s.f), PV.sl false 1 s.m (RR s.w s.h), PV.sl false 1 s.m (MK s.r)].length - 0) fun j => [PV.sl false 1 s.n (TR s.f), PV.sl false 1 s.m (RR s.w s.h), PV.sl false 1 s.m (MK s.r)].getD (0 + j) PV.any), AV.p false (PV.pp ([roD s.c s.dn].length - 0) fun j => [roD s.c s.dn].getD (0 + j) PV.any)]), (18, AI ↑mid), (19, AI ↑n), (20, AI ↑x.1), (21, AI (IntKind.i64.wrap ((IntKind.u64.wrap (IntKind.i64.wrap ((↑x.1 : Int) + ↑x.2))).fdiv (2 ^ min (Int.toNat 1) IntKind.u64.bits)))), (22, AI ↑p), (151, AB (decide ((↑x.1 : Int) < ↑x.2))), (23, AI (IntKind.i64.wrap ((IntKind.u64.wrap (IntKind.i64.wrap ((↑x.1 : Int) + ↑x.2))).fdiv (2 ^ min (Int.toNat 1) IntKind.u64.bits)))), (171, AB !decide (ordX s.c s.dn (sgK s (D (IntKind.i64.wrap ((↑p : Int) - IntKind.i64.wrap ((IntKind.u64.wrap (IntKind.i64.wrap ((↑x.1 : Int) + ↑x.2))).fdiv (2 ^ min (Int.toNat 1) IntKind.u64.bits)))).toNat)) (sgK s (D (IntKind.i64.wrap ((IntKind.u64.wrap (IntKind.i64.wrap ((↑x.1 : Int) + ↑x.2))).fdiv (2 ^ min (Int.toNat 1) IntKind.u64.bits))).toNat)) < 0))] [(100000, .row .u true 1 N (fun i x_1 => PI (↑(D i) : Int)) [])]))))))))) (VC.split (decide ((↑x.1 : Int) < ↑m)) (VC.split (decide ((↑m : Int) < IntKind.i64.wrap ((↑n : Int) - ↑x.1))) (VC.call 98 [.own 0, AI ↑x.1, AI ↑m, AI (IntKind.i64.wrap ((↑n : Int) - ↑x.1)), AV.cl 57 [] [AV.p false (PV.pp ([PV.sl false 1 s.n (TR s.f), PV.sl false 1 s.m (RR s.w s.h), PV.sl false 1 s.m (MK s.r)].length - 0) fun j => [PV.sl false 1 s.n (TR s.f), PV.sl false 1 s.m (RR s.w s.h), PV.sl false 1 s.m (MK s.r)].getD (0 + j) PV.any), AV.p false (PV.pp ([roD s.c s.dn].length - 0) fun j => [roD s.c s.dn].getD (0 + j) PV.any)]] [(0, .row .u true 1 N (fun i x_1 => PI (↑(D i) : Int)) [])] (AV.tp []) [(0, OR N (rotF D x.1 m (IntKind.i64.wrap ((↑n : Int) - ↑x.1)).toNat))] (VC.stop [.ir ir86_C1, .ir ir86_D1] (St.mk [(0, .own 100000), (1, AI ↑a), (2, AI ↑m), (3, AI ↑b), (4, AV.cl 57 [] [AV.p false (PV.pp ([PV.sl false 1 s.n (TR s.f), PV.sl false 1 s.m (RR s.w s.h), PV.sl false 1 s.m (MK s.r)].length - 0) fun j => [PV.sl false 1 s.n (TR s.f), PV.sl false 1 s.m (RR s.w s.h), PV.sl false 1 s.m (MK s.r)].getD (0 + j) PV.any), AV.p false (PV.pp ([roD s.c s.dn].length - 0) fun j => [roD s.c s.dn].getD (0 + j) PV.any)]), (18, AI ↑mid), (19, AI ↑n), (20, AI ↑x.1), (21, AI ↑x.2), (22, AI ↑p), (151, AB (decide ((↑x.1 : Int) < ↑x.2))), (24, AI (IntKind.i64.wrap ((↑n : Int) - ↑x.1))), (185, AB (decide ((↑m : Int) < IntKind.i64.wrap ((↑n : Int) - ↑x.1))))] [(100000, .row .u true 1 N (fun i x_1 => PI (↑(rotF D x.1 m (IntKind.i64.wrap ((↑n : Int) - ↑x.1)).toNat i) : Int)) [])]))) (VC.stop [.ir ir86_C1, .ir ir86_D1] (St.mk [(0, .own 100000), (1, AI ↑a), (2, AI ↑m), (3, AI ↑b), (4, AV.cl 57 [] [AV.p false (PV.pp ([PV.sl false 1 s.n (TR s.f), PV.sl false 1 s.m (RR s.w s.h), PV.sl false 1 s.m (MK s.r)].length - 0) fun j => [PV.sl false 1 s.n (TR s.f), PV.sl false 1 s.m (RR s.w s.h), PV.sl false 1 s.m (MK s.r)].getD (0 + j) PV.any), AV.p false (PV.pp ([roD s.c s.dn].length - 0) fun j => [roD s.c s.dn].getD (0 + j) PV.any)]), (18, AI ↑mid), (19, AI ↑n), (20, AI ↑x.1), (21, AI ↑x.2), (22, AI ↑p), (151, AB (decide ((↑x.1 : Int) < ↑x.2))), (24, AI (IntKind.i64.wrap ((↑n : Int) - ↑x.1))), (185, AB (decide ((↑m : Int) < IntKind.i64.wrap ((↑n : Int) - ↑x.1))))] [(100000, .row .u true 1 N (fun i x_1 => PI (↑(D i) : Int)) [])]))) (VC.stop [.ir ir86_C1, .ir ir86_D1] (St.mk [(0, .own 100000), (1, AI ↑a), (2, AI ↑m), (3, AI ↑b), (4, AV.cl 57 [] [AV.p false (PV.pp ([PV.sl false 1 s.n (TR s.f), PV.sl false 1 s.m (RR s.w s.h), PV.sl false 1 s.m (MK s.r)].length - 0) fun j => [PV.sl false 1 s.n (TR s.f), PV.sl false 1 s.m (RR s.w s.h), PV.sl false 1 s.m (MK s.r)].getD (0 + j) PV.any), AV.p false (PV.pp ([roD s.c s.dn].length - 0) fun j => [roD s.c s.dn].getD (0 + j) PV.any)]), (18, AI ↑mid), (19, AI ↑n), (20, AI ↑x.1), (21, AI ↑x.2), (22, AI ↑p), (151, AB (decide ((↑x.1 : Int) < ↑x.2))), (24, AI (IntKind.i64.wrap ((↑n : Int) - ↑x.1))), (185, AB false)] [(100000, .row .u true 1 N (fun i x_1 => PI (↑(D i) : Int)) [])]))) := by intros; kernel_rfl
def st_sy8 (s : SK) (N : Nat) (D : Nat → Nat) (a b mid st e : Nat) : St := ⟨[(0, .own 100000), (1, AI a), (3, AI b), (4, sgFn s), (18, AI mid), (20, AI st), (24, AI e)], [(100000, OR N D)]⟩
theorem evr_sy8 : ∀ (s : SK) (N : Nat) (D0 D : Nat → Nat) (a b mid st e : Nat), ev G0 res86 [(0, OR N D0)] 3000 (((Or.callE [100000] (Nat → Nat) (fun (D' : Nat → Nat) => SegP a mid D D' ∧ SrtS (sgL s) (sgK s) a mid D') (fun (x : Nat → Nat) => AV.tp []) (fun (D' : Nat → Nat) => [(0, OR N D')]) fun (D' : Nat → Nat) => Or.stop 2).split (Or.stop 1)).lit.lit.lit.split (Or.stop 1).lit.lit.lit.lit) [.ir ir86_C1, .ir ir86_D1] (st_sy8 s N D a b mid st e) = VC.split (decide ((↑a : Int) < ↑st)) (VC.split (decide ((↑st : Int) < ↑mid)) (VC.callE (Nat → Nat) 86 [.own 0, AI ↑a, AI ↑st, AI ↑mid, AV.cl 57 [] [AV.p false (PV.pp ([PV.sl false 1 s.n (TR s.f), PV.sl false 1 s.m (RR s.w s.h), PV.sl false 1 s.m (MK s.r)].length - 0) fun j => [PV.sl false 1 s.n (TR s.f), PV.sl false 1 s.m (RR s.w s.h), PV.sl false 1 s.m (MK s.r)].getD (0 + j) PV.any), AV.p false (PV.pp ([roD s.c s.dn].length - 0) fun j => [roD s.c s.dn].getD (0 + j) PV.any)]] [(0, .row .u true 1 N (fun i x => PI (↑(D i) : Int)) [])] (fun (D' : Nat → Nat) => SegP a mid D D' ∧ SrtS (sgL s) (sgK s) a mid D') (fun (x : Nat → Nat) => AV.tp []) (fun (D' : Nat → Nat) => [(0, OR N D')]) fun (D' : Nat → Nat) => VC.stop [.ir ir86_D1] (St.mk [(0, .own 100000), (1, AI ↑a), (3, AI ↑b), (4, AV.cl 57 [] [AV.p false (PV.pp ([PV.sl false 1 s.n (TR s.f), PV.sl false 1 s.m (RR s.w s.h), PV.sl false 1 s.m (MK s.r)].length - 0) fun j => [PV.sl false 1 s.n (TR s.f), PV.sl false 1 s.m (RR s.w s.h), PV.sl false 1 s.m (MK s.r)].getD (0 + j) PV.any), AV.p false (PV.pp ([roD s.c s.dn].length - 0) fun j => [roD s.c s.dn].getD (0 + j) PV.any)]), (18, AI ↑mid), (20, AI ↑st), (24, AI ↑e), (199, AB (decide ((↑st : Int) < ↑mid)))] [(100000, .row .u true 1 N (fun i x => PI (↑(D' i) : Int)) [])])) (VC.stop [.ir ir86_D1] (St.mk [(0, .own 100000), (1, AI ↑a), (3, AI ↑b), (4, AV.cl 57 [] [AV.p false (PV.pp ([PV.sl false 1 s.n (TR s.f), PV.sl false 1 s.m (RR s.w s.h), PV.sl false 1 s.m (MK s.r)].length - 0) fun j => [PV.sl false 1 s.n (TR s.f), PV.sl false 1 s.m (RR s.w s.h), PV.sl false 1 s.m (MK s.r)].getD (0 + j) PV.any), AV.p false (PV.pp ([roD s.c s.dn].length - 0) fun j => [roD s.c s.dn].getD (0 + j) PV.any)]), (18, AI ↑mid), (20, AI ↑st), (24, AI ↑e), (199, AB (decide ((↑st : Int) < ↑mid)))] [(100000, .row .u true 1 N (fun i x => PI (↑(D i) : Int)) [])]))) (VC.stop [.ir ir86_D1] (St.mk [(0, .own 100000), (1, AI ↑a), (3, AI ↑b), (4, AV.cl 57 [] [AV.p false (PV.pp ([PV.sl false 1 s.n (TR s.f), PV.sl false 1 s.m (RR s.w s.h), PV.sl false 1 s.m (MK s.r)].length - 0) fun j => [PV.sl false 1 s.n (TR s.f), PV.sl false 1 s.m (RR s.w s.h), PV.sl false 1 s.m (MK s.r)].getD (0 + j) PV.any), AV.p false (PV.pp ([roD s.c s.dn].length - 0) fun j => [roD s.c s.dn].getD (0 + j) PV.any)]), (18, AI ↑mid), (20, AI ↑st), (24, AI ↑e), (199, AB false)] [(100000, .row .u true 1 N (fun i x => PI (↑(D i) : Int)) [])])) := by intros; kernel_rfl
theorem evr_sy9 : ∀ (s : SK) (N : Nat) (D0 D : Nat → Nat) (a b mid st e : Nat), ev G0 res86 [(0, OR N D0)] 3000 (((Or.callE [100000] (Nat → Nat) (fun (D' : Nat → Nat) => SegP mid b D D' ∧ SrtS (sgL s) (sgK s) mid b D') (fun (x : Nat → Nat) => AV.tp []) (fun (D' : Nat → Nat) => [(0, OR N D')]) fun (D' : Nat → Nat) => Or.nil).split Or.nil).lit.lit.lit.split Or.nil.lit.lit.lit.lit) [.ir ir86_D1] (st_sy8 s N D a b mid st e) = VC.split (decide ((↑mid : Int) < ↑e)) (VC.split (decide ((↑e : Int) < ↑b)) (VC.callE (Nat → Nat) 86 [.own 0, AI ↑mid, AI ↑e, AI ↑b, AV.cl 57 [] [AV.p false (PV.pp ([PV.sl false 1 s.n (TR s.f), PV.sl false 1 s.m (RR s.w s.h), PV.sl false 1 s.m (MK s.r)].length - 0) fun j => [PV.sl false 1 s.n (TR s.f), PV.sl false 1 s.m (RR s.w s.h), PV.sl false 1 s.m (MK s.r)].getD (0 + j) PV.any), AV.p false (PV.pp ([roD s.c s.dn].length - 0) fun j => [roD s.c s.dn].getD (0 + j) PV.any)]] [(0, .row .u true 1 N (fun i x => PI (↑(D i) : Int)) [])] (fun (D' : Nat → Nat) => SegP mid b D D' ∧ SrtS (sgL s) (sgK s) mid b D') (fun (x : Nat → Nat) => AV.tp []) (fun (D' : Nat → Nat) => [(0, OR N D')]) fun (D' : Nat → Nat) => VC.done (St.mk [(0, .own 100000), (1, AI ↑a), (3, AI ↑b), (4, AV.cl 57 [] [AV.p false (PV.pp ([PV.sl false 1 s.n (TR s.f), PV.sl false 1 s.m (RR s.w s.h), PV.sl false 1 s.m (MK s.r)].length - 0) fun j => [PV.sl false 1 s.n (TR s.f), PV.sl false 1 s.m (RR s.w s.h), PV.sl false 1 s.m (MK s.r)].getD (0 + j) PV.any), AV.p false (PV.pp ([roD s.c s.dn].length - 0) fun j => [roD s.c s.dn].getD (0 + j) PV.any)]), (18, AI ↑mid), (20, AI ↑st), (24, AI ↑e), (213, AB (decide ((↑e : Int) < ↑b)))] [(100000, .row .u true 1 N (fun i x => PI (↑(D' i) : Int)) [])])) (VC.done (St.mk [(0, .own 100000), (1, AI ↑a), (3, AI ↑b), (4, AV.cl 57 [] [AV.p false (PV.pp ([PV.sl false 1 s.n (TR s.f), PV.sl false 1 s.m (RR s.w s.h), PV.sl false 1 s.m (MK s.r)].length - 0) fun j => [PV.sl false 1 s.n (TR s.f), PV.sl false 1 s.m (RR s.w s.h), PV.sl false 1 s.m (MK s.r)].getD (0 + j) PV.any), AV.p false (PV.pp ([roD s.c s.dn].length - 0) fun j => [roD s.c s.dn].getD (0 + j) PV.any)]), (18, AI ↑mid), (20, AI ↑st), (24, AI ↑e), (213, AB (decide ((↑e : Int) < ↑b)))] [(100000, .row .u true 1 N (fun i x => PI (↑(D i) : Int)) [])]))) (VC.done (St.mk [(0, .own 100000), (1, AI ↑a), (3, AI ↑b), (4, AV.cl 57 [] [AV.p false (PV.pp ([PV.sl false 1 s.n (TR s.f), PV.sl false 1 s.m (RR s.w s.h), PV.sl false 1 s.m (MK s.r)].length - 0) fun j => [PV.sl false 1 s.n (TR s.f), PV.sl false 1 s.m (RR s.w s.h), PV.sl false 1 s.m (MK s.r)].getD (0 + j) PV.any), AV.p false (PV.pp ([roD s.c s.dn].length - 0) fun j => [roD s.c s.dn].getD (0 + j) PV.any)]), (18, AI ↑mid), (20, AI ↑st), (24, AI ↑e), (213, AB false)] [(100000, .row .u true 1 N (fun i x => PI (↑(D i) : Int)) [])])) := by intros; kernel_rfl
theorem half_u {x : Int} (h0 : 0 ≤ x) (h1 : x ≤ 1099511627776) : IntKind.i64.wrap ((IntKind.u64.wrap (IntKind.i64.wrap x)).fdiv (2 ^ min (Int.toNat 1) IntKind.u64.bits)) = x / 2 := by
  have e1 : IntKind.i64.wrap x = x := wrap_in (by omega) (by omega)
  have e2 : IntKind.u64.wrap x = x := IntWalk.u64_in x (by omega)
  have e3 : (2 : Int) ^ min (Int.toNat 1) IntKind.u64.bits = 2 := by decide
  rw [e1, e2, e3, Int.fdiv_eq_ediv_of_nonneg _ (by omega)]
  exact wrap_in (by omega) (by omega)
abbrev SyPost (s : SK) (N : Nat) (D : Nat → Nat) (a b : Nat) : AV → List (Nat × Ob) → Prop := fun x h => ∃ D', (SegP a b D D' ∧ SrtS (sgL s) (sgK s) a b D') ∧ x = .tp [] ∧ h = [(0, OR N D')]
theorem sy9 (s : SK) (N : Nat) (D0 D : Nat → Nat) (a b mid st e d : Nat) (hd : SymH s N d) (hbd : b - a < d + (mid - a)) (hb : b ≤ N) (hN : N ≤ 1048576) (ho : a ≤ mid ∧ mid ≤ e ∧ e ≤ b) (hm : ∀ i, i < N → D i < s.m) (hP : SegP a b D0 D) (hA : Parted (sgL s) (sgK s) a mid b D) (h1 : SrtS (sgL s) (sgK s) a mid D) (h2 : SrtS (sgL s) (sgK s) mid e D) (h3 : SrtS (sgL s) (sgK s) e b D) :
    Go.Gw.M Tryz.prog G0 (Post res86 [(0, OR N D0)] (SyPost s N D0 a b)) [Item.ir ir86_D1] (st_sy8 s N D a b mid st e) := by
  refine Go.Gw.M.by [] [] [] ?_ (evr_sy9 s N D0 D a b mid st e) ?_
  · simp [st_sy8, leA, PV.Le_self, AV.leCs]
  · simp only [vcA]
    refine ⟨fun c1 => ⟨fun c2 => ⟨c_symI s N d D (mid : Int) (e : Int) (b : Int) ⟨hd, by omega, by omega, by omega, by omega, by omega, hm, by simpa only [Int.toNat_natCast] using h2, by simpa only [Int.toNat_natCast] using h3⟩, fun E hE => ?_⟩, fun c2 => ?_⟩, fun c1 => ?_⟩
    · try simp only [Int.toNat_natCast] at hE
      obtain ⟨k1, k2⟩ := hE
      refine ResOk.mk [] [(0, 100000)] [] _ _ ?_ ⟨E, ⟨hP.trans (k1.mono ho.1 (Nat.le_refl _)), SrtS.join (h1.congr fun i g1 g2 => k1.out i (.inl g2)) k2 (hA.right k1)⟩, rfl, rfl⟩
      simp [doneC, resOf, resAV, tup, pinR, PV.Le_self, leA, res86]
    · have : e = b := by omega
      subst this
      refine ResOk.mk [] [(0, 100000)] [] _ _ ?_ ⟨D, ⟨hP, SrtS.join h1 h2 hA⟩, rfl, rfl⟩
      simp [doneC, resOf, resAV, tup, pinR, PV.Le_self, leA, res86]
    · have : e = mid := by omega
      subst this
      refine ResOk.mk [] [(0, 100000)] [] _ _ ?_ ⟨D, ⟨hP, SrtS.join h1 h3 hA⟩, rfl, rfl⟩
      simp [doneC, resOf, resAV, tup, pinR, PV.Le_self, leA, res86]
theorem sy8 (s : SK) (N : Nat) (D0 D : Nat → Nat) (a b mid st e d : Nat) (hd : SymH s N d) (hbd : b - a < d + (mid - a)) (hbd2 : mid - a < d) (hb : b ≤ N) (hN : N ≤ 1048576) (ho : a ≤ st ∧ st ≤ mid ∧ mid ≤ e ∧ e ≤ b) (hm : ∀ i, i < N → D i < s.m) (hP : SegP a b D0 D) (hA : Parted (sgL s) (sgK s) a mid b D) (h1 : SrtS (sgL s) (sgK s) a st D) (h2 : SrtS (sgL s) (sgK s) st mid D) (h3 : SrtS (sgL s) (sgK s) mid e D) (h4 : SrtS (sgL s) (sgK s) e b D) :
    Go.Gw.M Tryz.prog G0 (Post res86 [(0, OR N D0)] (SyPost s N D0 a b)) [Item.ir ir86_C1, Item.ir ir86_D1] (st_sy8 s N D a b mid st e) := by
  refine Go.Gw.M.by [] [] [] ?_ (evr_sy8 s N D0 D a b mid st e) ?_
  · simp [st_sy8, leA, PV.Le_self, AV.leCs]
  · simp only [vcA]
    refine ⟨fun c1 => ⟨fun c2 => ⟨c_symI s N d D (a : Int) (st : Int) (mid : Int) ⟨hd, by omega, by omega, by omega, by omega, by omega, hm, by simpa only [Int.toNat_natCast] using h1, by simpa only [Int.toNat_natCast] using h2⟩, fun E hE => ?_⟩, fun c2 => ?_⟩, fun c1 => ?_⟩
    · try simp only [Int.toNat_natCast] at hE
      obtain ⟨k1, k2⟩ := hE
      have hEm : ∀ i, i < N → E i < s.m := fun i hi => by
        by_cases c : a ≤ i ∧ i < mid
        · exact k1.all (p := fun x => x < s.m) (fun k g1 g2 => hm k (by omega)) i c.1 c.2
        · rw [k1.out i (by omega)]; exact hm i hi
      refine Go.Gw.M.wk (Wk.mk [] [] [] ?_) (sy9 s N D0 E a b mid st e d hd hbd hb hN ⟨by omega, by omega, by omega⟩ hEm (hP.trans (k1.mono (Nat.le_refl _) (by omega))) (hA.left k1 (by omega)) k2 (h3.congr fun i g1 g2 => k1.out i (.inr g1)) (h4.congr fun i g1 g2 => k1.out i (.inr (by omega))))
      simp [st_sy8, leA, PV.Le_self, AV.leCs]
    · have : st = mid := by omega
      subst this
      refine Go.Gw.M.wk (Wk.mk [] [] [] ?_) (sy9 s N D0 D a b st st e d hd hbd hb hN ⟨by omega, by omega, by omega⟩ hm hP hA h1 h3 h4)
      simp [st_sy8, leA, PV.Le_self, AV.leCs]
    · have : st = a := by omega
      subst this
      refine Go.Gw.M.wk (Wk.mk [] [] [] ?_) (sy9 s N D0 D st b mid st e d hd hbd hb hN ⟨by omega, by omega, by omega⟩ hm hP hA h2 h3 h4)
      simp [st_sy8, leA, PV.Le_self, AV.leCs]
theorem sy7 (s : SK) (N : Nat) (ok : SkOk s) (hN : N ≤ 1048576) (d : Nat) (hd : SymH s N d) (D : Nat → Nat) (a m b mid s0 r0 : Nat) (hbd : b - a < d + 1) (ham : a < m) (hmb : m < b) (hb : b ≤ N) (hm : ∀ i, i < N → D i < s.m) (h1 : SrtS (sgL s) (sgK s) a m D) (h2 : SrtS (sgL s) (sgK s) m b D) (hmid : mid = (a + b) / 2)
    (hh : a ≤ s0 ∧ s0 ≤ r0 ∧ r0 ≤ m ∧ r0 ≤ mid ∧ (s0 = a ∨ mid + m = s0 + b) ∧ mid + m ≤ s0 + b ∧ (r0 = m ∨ r0 = mid)) (S : St) (hs : stLe (S.lowers []) (st_sy7 s N D a m b mid (mid + m) (mid + m - 1) (s0, r0)) [] []) :
    (VC.loop ir86_L7 [Item.bend 8, Item.ir ir86_T8] S).holds Tryz.prog G0 res86 [(0, OR N D)] (SyPost s N D a b) := by
  have hO := ltX_swo s.c s.dn
  obtain ⟨k1, k2, k3, k4, k5, k6, k7⟩ := hh
  refine loop_by (st_sy7 s N D a m b mid (mid + m) (mid + m - 1)) (fun x => s0 ≤ x.1 ∧ x.1 ≤ x.2 ∧ x.2 ≤ r0 ∧ (x.1 = s0 ∨ (s0 < x.1 ∧ sgL s (sgK s (D (mid + m - x.1))) (sgK s (D (x.1 - 1))) = false)) ∧ (x.2 = r0 ∨ (x.2 < r0 ∧ sgL s (sgK s (D (mid + m - 1 - x.2))) (sgK s (D x.2)) = true))) (fun x => x.2 - x.1) (s0, r0) [] [] [] ⟨Nat.le_refl _, k2, Nat.le_refl _, .inl rfl, .inl rfl⟩ hs (evr_sy7 s N D a m b mid (mid + m) (mid + m - 1)) fun x hx => ?_
  obtain ⟨st, r⟩ := x
  obtain ⟨g1, g2, g3, g4, g5⟩ := hx
  simp only [] at g1 g2 g3 g4 g5
  have e4 : IntKind.i64.wrap ((IntKind.u64.wrap (IntKind.i64.wrap ((st : Int) + r))).fdiv (2 ^ min (Int.toNat 1) IntKind.u64.bits)) = (((st + r) / 2 : Nat) : Int) := (half_u (by omega) (by omega)).trans (by omega)
  have e5 : IntKind.i64.wrap (((mid + m : Nat) : Int) - st) = ((mid + m - st : Nat) : Int) := (wrap_in (by omega) (by omega)).trans (by omega)
  simp only [vcA, e4, e5]
  refine ⟨fun c1 => ?_, fun c1 => ?_⟩
  · obtain ⟨c, hc⟩ : ∃ c, (st + r) / 2 = c := ⟨_, rfl⟩
    rw [hc]
    have e6 : IntKind.i64.wrap (((mid + m - 1 : Nat) : Int) - c) = ((mid + m - 1 - c : Nat) : Int) := (wrap_in (by omega) (by omega)).trans (by omega)
    have e7 : IntKind.i64.wrap ((c : Int) + 1) = ((c + 1 : Nat) : Int) := wrap_in (by omega) (by omega)
    simp only [e6, e7, Int.toNat_natCast]
    refine ⟨by decide, by omega, by omega, by omega, by omega, c_sgC _ _ _ ok (hm _ (by omega)) (hm _ (by omega)), fun c2 => Again.mk (c + 1, r) [] [] [] ⟨by simp only []; omega, by simp only []; omega, g3, .inr ⟨by simp only []; omega, ?_⟩, g5⟩ (by simp only []; omega) ?_, fun c2 => Again.mk (st, c) [] [] [] ⟨g1, by simp only []; omega, by simp only []; omega, g4, .inr ⟨by simp only []; omega, ?_⟩⟩ (by simp only []; omega) ?_⟩
    · have c3 : sgL s (sgK s (D (mid + m - 1 - c))) (sgK s (D c)) = false := by simpa [sgL, ltX] using c2
      simp only [Nat.add_sub_cancel]
      rw [show mid + m - (c + 1) = mid + m - 1 - c by omega]
      exact c3
    · simp [st_sy7, leA, PV.Le_self, AV.leCs]
    · have c3 : sgL s (sgK s (D (mid + m - 1 - c))) (sgK s (D c)) = true := by simpa [sgL, ltX] using c2
      exact c3
    · simp [st_sy7, leA, PV.Le_self, AV.leCs]
  · have hsr : st = r := by omega
    subst hsr
    obtain ⟨e, he⟩ : ∃ e, mid + m - st = e := ⟨_, rfl⟩
    rw [he]
    have key := rot_parted (lt := sgL s) (K := sgK s) (D := D) (a := a) (m := m) (b := b) (s := st) (e := e) (mid := mid) hO ham hmb hmid (by omega) ⟨by omega, by omega⟩ ⟨by omega, by omega⟩ h1 h2 (fun c2 c3 => by
      rcases g4 with g4 | g4
      · omega
      · rw [← he]; exact g4.2) (fun c2 c3 => by
      rcases g5 with g5 | g5
      · omega
      · rw [show e - 1 = mid + m - 1 - st by omega]; exact g5.2)
    obtain ⟨p1, p2, p3, p4, p5⟩ := key
    refine ⟨fun c2 => ⟨fun c3 => ⟨c_rotI s N D (st : Int) (m : Int) (e : Int) ⟨by omega, by omega, by omega, by omega, hN⟩, ?_⟩, fun c3 => ?_⟩, fun c2 => ?_⟩
    · have hc : st < m ∧ m < e := ⟨by omega, by omega⟩
      simp only [hc, and_self, if_true] at p1 p2 p3 p4 p5
      have hR : SegP a b D (rotF D st m e) := (rotF_perm D hc.1 hc.2).mono (by omega) (by omega)
      have hRm : ∀ i, i < N → rotF D st m e i < s.m := fun i hi => by
        by_cases c : a ≤ i ∧ i < b
        · exact hR.all (p := fun x => x < s.m) (fun k c4 c5 => hm k (by omega)) i c.1 c.2
        · rw [hR.out i (by omega)]; exact hm i hi
      try simp only [Int.toNat_natCast]
      refine Go.Gw.M.wk (Wk.mk [] [] [] ?_) (sy8 s N D (rotF D st m e) a b mid st e d hd (by omega) (by omega) hb hN ⟨by omega, by omega, by omega, by omega⟩ hRm hR p1 p2 p3 p4 p5)
      simp [st_sy8, leA, PV.Le_self, AV.leCs]
    · have hc : ¬ (st < m ∧ m < e) := by omega
      simp only [hc, if_false] at p1 p2 p3 p4 p5
      refine Go.Gw.M.wk (Wk.mk [] [] [] ?_) (sy8 s N D D a b mid st e d hd (by omega) (by omega) hb hN ⟨by omega, by omega, by omega, by omega⟩ hm (.refl _ _ _) p1 p2 p3 p4 p5)
      simp [st_sy8, leA, PV.Le_self, AV.leCs]
    · have hc : ¬ (st < m ∧ m < e) := by omega
      simp only [hc, if_false] at p1 p2 p3 p4 p5
      refine Go.Gw.M.wk (Wk.mk [] [] [] ?_) (sy8 s N D D a b mid st e d hd (by omega) (by omega) hb hN ⟨by omega, by omega, by omega, by omega⟩ hm (.refl _ _ _) p1 p2 p3 p4 p5)
      simp [st_sy8, leA, PV.Le_self, AV.leCs]
theorem c_sym (s : SK) (N : Nat) (ok : SkOk s) (hN : N ≤ 1048576) : ∀ d, SymH s N d := by
  have hO := ltX_swo s.c s.dn
  intro d
  induction d with
  | zero => intro D a m b h; omega
  | succ d ih =>
    intro D a m b hd ham hmb hb hm h1 h2
    have hS : ∀ i, i < N → D i < s.m := hm
    refine PCall.by chk86 rfl (ev_sym s N D a m b) ?_
    have e1 : IntKind.i64.wrap ((m : Int) - a) = ((m - a : Nat) : Int) := (wrap_in (by omega) (by omega)).trans (by omega)
    have e2 : IntKind.i64.wrap ((b : Int) - m) = ((b - m : Nat) : Int) := (wrap_in (by omega) (by omega)).trans (by omega)
    have e3 : IntKind.i64.wrap ((IntKind.u64.wrap (IntKind.i64.wrap ((a : Int) + b))).fdiv (2 ^ min (Int.toNat 1) IntKind.u64.bits)) = (((a + b) / 2 : Nat) : Int) := (half_u (by omega) (by omega)).trans (by omega)
    simp only [vcA, e1, e2, e3]
    refine ⟨fun c1 => ?_, fun c1 => ⟨fun c2 => ?_, fun c2 => ⟨by decide, ?_⟩⟩⟩
    · -- one place on the left
      have hma : m = a + 1 := by
        have : ((m - a : Nat) : Int) = 1 := by simpa using c1
        omega
      subst hma
      refine loop_by (st_sy1 s N D a) (fun x => a + 1 ≤ x.1 ∧ x.1 ≤ x.2 ∧ x.2 ≤ b ∧ (∀ q, a < q → q < x.1 → sgL s (sgK s (D q)) (sgK s (D a)) = true) ∧ ∀ q, x.2 ≤ q → q < b → sgL s (sgK s (D q)) (sgK s (D a)) = false) (fun x => x.2 - x.1) (a + 1, b) [] [] [] ⟨Nat.le_refl _, by simp only []; omega, Nat.le_refl _, fun q g1 g2 => by simp only [] at g2; omega, fun q g1 g2 => by simp only [] at g1; omega⟩ ?_ (evr_sy1 s N D a) fun x hx => ?_
      · simp [st_sy1, leA, PV.Le_self, AV.leCs]
      · obtain ⟨i, j⟩ := x
        obtain ⟨hi, hij, hj, hlo, hup⟩ := hx
        simp only [] at hi hij hj hlo hup
        have e4 : IntKind.i64.wrap ((IntKind.u64.wrap (IntKind.i64.wrap ((i : Int) + j))).fdiv (2 ^ min (Int.toNat 1) IntKind.u64.bits)) = (((i + j) / 2 : Nat) : Int) := (half_u (by omega) (by omega)).trans (by omega)
        simp only [vcA, e4, Int.toNat_natCast]
        refine ⟨fun c3 => ?_, fun c3 => ?_⟩
        · obtain ⟨h, hh⟩ : ∃ h, (i + j) / 2 = h := ⟨_, rfl⟩
          rw [hh]
          have e5 : IntKind.i64.wrap ((h : Int) + 1) = ((h + 1 : Nat) : Int) := wrap_in (by omega) (by omega)
          have srt : ∀ p q, a + 1 ≤ p → p < q → q < b → sgL s (sgK s (D q)) (sgK s (D p)) = false := h2
          refine ⟨by decide, by omega, by omega, by omega, by omega, c_sgC _ _ _ ok (hS h (by omega)) (hS a (by omega)), fun c4 => Again.mk (h + 1, j) [] [] [] ⟨by simp only []; omega, by simp only []; omega, hj, fun q g1 g2 => ?_, hup⟩ (by simp only []; omega) ?_, fun c4 => Again.mk (i, h) [] [] [] ⟨hi, by simp only []; omega, by simp only []; omega, hlo, fun q g1 g2 => ?_⟩ (by simp only []; omega) ?_⟩
          · have c5 : sgL s (sgK s (D h)) (sgK s (D a)) = true := decide_eq_true c4
            simp only [] at g2
            by_cases g3 : q = h
            · rw [g3]; exact c5
            · cases g4 : sgL s (sgK s (D q)) (sgK s (D a)) with
              | true => rfl
              | false =>
                have := hO.ntrans _ _ _ (srt q h (by omega) (by omega) (by omega)) g4
                cases (c5.symm.trans this : true = false)
          · simp only [e5]; simp [st_sy1, leA, PV.Le_self, AV.leCs]
          · have c5 : sgL s (sgK s (D h)) (sgK s (D a)) = false := decide_eq_false c4
            simp only [] at g1
            by_cases g3 : q = h
            · rw [g3]; exact c5
            · exact hO.ntrans _ _ _ (srt h q (by omega) (by omega) g2) c5
          · simp [st_sy1, leA, PV.Le_self, AV.leCs]
        · have hij' : i = j := by omega
          subst hij'
          refine loop_by (st_sy2 N i) (fun x => a ≤ x.1 ∧ (x.1 + 1 ≤ i) ∧ SegP a b D x.2 ∧ Rise (sgL s) (sgK s) a b i x.1 x.2) (fun x => i - x.1) (a, D) [] [] [] ⟨Nat.le_refl _, by simp only []; omega, .refl _ _ _, Rise.start h2 (fun q g1 g2 => hlo q g1 g2) hup⟩ ?_ (evr_sy2 N D i) fun x hx => ?_
          · simp [st_sy2, leA, PV.Le_self, AV.leCs]
          · obtain ⟨k, E⟩ := x
            obtain ⟨hak, hki, hP, hR⟩ := hx
            simp only [] at hak hki hP hR
            have e5 : IntKind.i64.wrap ((k : Int) + 1) = ((k + 1 : Nat) : Int) := wrap_in (by omega) (by omega)
            have e6 : IntKind.i64.wrap ((i : Int) - 1) = ((i - 1 : Nat) : Int) := (wrap_in (by omega) (by omega)).trans (by omega)
            simp only [vcA, e5, e6, Int.toNat_natCast]
            refine ⟨fun c4 => ⟨by omega, by omega, by omega, by omega, by omega, by omega, by omega, by omega, Again.mk (k + 1, swF E k (k + 1)) [] [] [] ⟨by simp only []; omega, by simp only []; omega, hP.trans (.swap E ⟨by omega, by omega⟩ ⟨by omega, by omega⟩), hR.step hO (by omega) (by omega) hak⟩ (by simp only []; omega) ?_⟩, fun c4 => ?_⟩
            · simp [st_sy2, leA, PV.Le_self, AV.leCs]
              exact fun q hq => OR_sw (by omega) rfl rfl q
            · refine ResOk.mk [] [(0, 100000)] [] _ _ ?_ ⟨E, ⟨hP, hR.stop (by omega)⟩, rfl, rfl⟩
              simp [doneC, resOf, resAV, tup, pinR, PV.Le_self, leA, res86]
    · -- one place on the right
      have hbm : b = m + 1 := by
        have : ((b - m : Nat) : Int) = 1 := by simpa using c2
        omega
      subst hbm
      refine loop_by (st_sy4 s N D m) (fun x => a ≤ x.1 ∧ x.1 ≤ x.2 ∧ x.2 ≤ m ∧ (∀ q, a ≤ q → q < x.1 → sgL s (sgK s (D m)) (sgK s (D q)) = false) ∧ ∀ q, x.2 ≤ q → q < m → sgL s (sgK s (D m)) (sgK s (D q)) = true) (fun x => x.2 - x.1) (a, m) [] [] [] ⟨Nat.le_refl _, by simp only []; omega, Nat.le_refl _, fun q g1 g2 => by simp only [] at g2; omega, fun q g1 g2 => by simp only [] at g1; omega⟩ ?_ (evr_sy4 s N D m) fun x hx => ?_
      · simp [st_sy4, leA, PV.Le_self, AV.leCs]
      · obtain ⟨i, j⟩ := x
        obtain ⟨hi, hij, hj, hlo, hup⟩ := hx
        simp only [] at hi hij hj hlo hup
        have e4 : IntKind.i64.wrap ((IntKind.u64.wrap (IntKind.i64.wrap ((i : Int) + j))).fdiv (2 ^ min (Int.toNat 1) IntKind.u64.bits)) = (((i + j) / 2 : Nat) : Int) := (half_u (by omega) (by omega)).trans (by omega)
        simp only [vcA, e4, Int.toNat_natCast]
        refine ⟨fun c3 => ?_, fun c3 => ?_⟩
        · obtain ⟨h, hh⟩ : ∃ h, (i + j) / 2 = h := ⟨_, rfl⟩
          rw [hh]
          have e5 : IntKind.i64.wrap ((h : Int) + 1) = ((h + 1 : Nat) : Int) := wrap_in (by omega) (by omega)
          have srt : ∀ p q, a ≤ p → p < q → q < m → sgL s (sgK s (D q)) (sgK s (D p)) = false := h1
          refine ⟨by decide, by omega, by omega, by omega, by omega, c_sgC _ _ _ ok (hS m (by omega)) (hS h (by omega)), fun c4 => Again.mk (h + 1, j) [] [] [] ⟨by simp only []; omega, by simp only []; omega, hj, fun q g1 g2 => ?_, hup⟩ (by simp only []; omega) ?_, fun c4 => Again.mk (i, h) [] [] [] ⟨hi, by simp only []; omega, by simp only []; omega, hlo, fun q g1 g2 => ?_⟩ (by simp only []; omega) ?_⟩
          · have c5 : sgL s (sgK s (D m)) (sgK s (D h)) = false := by simpa [sgL, ltX] using c4
            simp only [] at g2
            by_cases g3 : q = h
            · rw [g3]; exact c5
            · exact hO.ntrans _ _ _ c5 (srt q h g1 (by omega) (by omega))
          · simp only [e5]; simp [st_sy4, leA, PV.Le_self, AV.leCs]
          · have c5 : sgL s (sgK s (D m)) (sgK s (D h)) = true := by simpa [sgL, ltX] using c4
            simp only [] at g1
            by_cases g3 : q = h
            · rw [g3]; exact c5
            · cases g4 : sgL s (sgK s (D m)) (sgK s (D q)) with
              | true => rfl
              | false =>
                have := hO.ntrans _ _ _ g4 (srt h q (by omega) (by omega) g2)
                cases (c5.symm.trans this : true = false)
          · simp [st_sy4, leA, PV.Le_self, AV.leCs]
        · have hij' : i = j := by omega
          subst hij'
          refine loop_by (st_sy5 N i) (fun x => i ≤ x.1 ∧ x.1 ≤ m ∧ SegP a (m + 1) D x.2 ∧ Fall (sgL s) (sgK s) a (m + 1) i x.1 x.2) (fun x => x.1) (m, D) [] [] [] ⟨by simp only []; omega, Nat.le_refl _, .refl _ _ _, Fall.start h1 hlo hup⟩ ?_ (evr_sy5 N D i) fun x hx => ?_
          · simp [st_sy5, leA, PV.Le_self, AV.leCs]
          · obtain ⟨k, E⟩ := x
            obtain ⟨hik, hkm, hP, hR⟩ := hx
            simp only [] at hik hkm hP hR
            simp only [vcA, Int.toNat_natCast]
            refine ⟨fun c4 => ?_, fun c4 => ?_⟩
            · have e5 : IntKind.i64.wrap ((k : Int) - 1) = ((k - 1 : Nat) : Int) := (wrap_in (by omega) (by omega)).trans (by omega)
              simp only [e5, Int.toNat_natCast]
              refine ⟨by omega, by omega, by omega, by omega, by omega, by omega, by omega, by omega, Again.mk (k - 1, swF E k (k - 1)) [] [] [] ⟨by simp only []; omega, by simp only []; omega, hP.trans (.swap E ⟨by omega, by omega⟩ ⟨by omega, by omega⟩), hR.step hO (by omega) (by omega) hi⟩ (by simp only []; omega) ?_⟩
              simp [st_sy5, leA, PV.Le_self, AV.leCs]
              exact fun q hq => OR_sw (by omega) rfl rfl q
            · refine ResOk.mk [] [(0, 100000)] [] _ _ ?_ ⟨E, ⟨hP, hR.stop (by omega)⟩, rfl, rfl⟩
              simp [doneC, resOf, resAV, tup, pinR, PV.Le_self, leA, res86]
    · -- both sides
      have hm2 : a + 2 ≤ m := by
        have : ¬ ((m - a : Nat) : Int) = 1 := by simpa using c1
        omega
      have hb2 : m + 2 ≤ b := by
        have : ¬ ((b - m : Nat) : Int) = 1 := by simpa using c2
        omega
      obtain ⟨mid, hmid⟩ : ∃ mid, (a + b) / 2 = mid := ⟨_, rfl⟩
      rw [hmid]
      have e4 : IntKind.i64.wrap ((mid : Int) + m) = ((mid + m : Nat) : Int) := wrap_in (by omega) (by omega)
      have e5 : IntKind.i64.wrap (((mid + m : Nat) : Int) - 1) = ((mid + m - 1 : Nat) : Int) := (wrap_in (by omega) (by omega)).trans (by omega)
      have e6 : mid < m → IntKind.i64.wrap (((mid + m : Nat) : Int) - b) = ((mid + m - b : Nat) : Int) := fun _ => (wrap_in (by omega) (by omega)).trans (by omega)
      have go : ∀ s0 r0 : Nat, a ≤ s0 → s0 ≤ r0 → r0 ≤ m → r0 ≤ mid → (s0 = a ∨ mid + m = s0 + b) → mid + m ≤ s0 + b → (r0 = m ∨ r0 = mid) → ∀ S : St, stLe (S.lowers []) (st_sy7 s N D a m b mid (mid + m) (mid + m - 1) (s0, r0)) [] [] →
          (VC.loop ir86_L7 [Item.bend 8, Item.ir ir86_T8] S).holds Tryz.prog G0 res86 [(0, OR N D)] (SyPost s N D a b) := fun s0 r0 g1 g2 g3 g4 g5 g6 g7 S hS' =>
        sy7 s N ok hN d ih D a m b mid s0 r0 hd ham hmb hb hm h1 h2 hmid.symm ⟨g1, g2, g3, g4, g5, g6, g7⟩ S hS'
      simp only [e4, e5]
      refine ⟨fun c3 => ?_, fun c3 => ?_⟩
      · have h7 : mid < m := by omega
        simp only [e6 h7]
        refine go (mid + m - b) mid (by omega) (by omega) (by omega) (Nat.le_refl _) (.inr (by omega)) (by omega) (.inr rfl) _ ?_
        simp [st_sy7, leA, PV.Le_self, AV.leCs]
      · refine go a m (Nat.le_refl _) (by omega) (Nat.le_refl _) (by omega) (.inl rfl) (by omega) (.inl rfl) _ ?_
        simp [st_sy7, leA, PV.Le_self, AV.leCs]
end Go.Gw
namespace Go.Gw
open Go Go.Proofs
set_option linter.unusedSimpArgs false
set_option linter.unusedVariables false
set_option maxRecDepth 100000
def ir78_L1 : Ir := (.seq (.seq (.reg [11, 12] [om 11 8, om 12 1, ob .leq 13 11 12]) (.cond (tt 13) .skip (.exit 0))) (.block 1 (.seq (.reg [14, 15, 16, 17, 18] [om 14 0, om 15 7, om 16 8, om 17 2, o 18 (.call 85 [(tt 14), (tt 15), (tt 16), (tt 17)])]) (.seq (.reg [19] [om 19 8, om 7 19]) (.reg [20, 21, 22] [om 20 8, om 21 6, ob .add 22 20 21, om 8 22])))))
def ir78_L2 : Ir := (.seq (.seq (.reg [33, 34] [om 33 8, om 34 1, ob .leq 35 33 34]) (.cond (tt 35) .skip (.exit 4))) (.block 5 (.seq (.reg [36, 37, 38, 39, 40, 41, 42, 43] [om 36 0, om 37 7, om 38 7, om 39 6, ob .add 40 38 39, om 41 8, om 42 2, o 43 (.call 86 [(tt 36), (tt 37), (tt 40), (tt 41), (tt 42)])]) (.seq (.reg [44] [om 44 8, om 7 44]) (.reg [45, 46, 47, 48] [om 45 8, om 46 6, o 47 (.bin .mul (ci 2) (tt 46)), ob .add 48 45 47, om 8 48])))))
def ir78_T3 : Ir := (.seq (.seq (.reg [49, 50, 51] [om 49 7, om 50 6, ob .add 51 49 50, om 9 51]) (.seq (.reg [52, 53] [om 52 9, om 53 1, ob .lss 54 52 53]) (.cond (tt 54) (.reg [55, 56, 57, 58, 59, 60] [om 55 0, om 56 7, om 57 9, om 58 1, om 59 2, o 60 (.call 86 [(tt 55), (tt 56), (tt 57), (tt 58), (tt 59)])]) .skip))) (.reg [61, 62] [om 61 6, o 62 (.bin .mul (tt 61) (ci 2)), om 6 62]))
def ir78_L4 : Ir := (.seq (.seq (.reg [28, 29] [om 28 6, om 29 1, ob .lss 30 28 29]) (.cond (tt 30) .skip (.exit 2))) (.block 3 (.seq (.reg [31, 32] [om 31 6, o 32 (.bin .mul (ci 2) (tt 31)), o 7 (.mov (ci 0)), om 8 32]) (.seq (.block 4 (.loop ir78_L2)) ir78_T3))))
def ir78_T5 : Ir := (.seq (.reg [23, 24, 25, 26, 27] [om 23 0, om 24 7, om 25 1, om 26 2, o 27 (.call 85 [(tt 23), (tt 24), (tt 25), (tt 26)])]) (.block 2 (.loop ir78_L4)))
def ir78 : Ir := (.seq (.reg [] [o 6 (.mov (ci 20))]) (.seq (.reg [10] [om 10 6, o 7 (.mov (ci 0)), om 8 10]) (.seq (.block 0 (.loop ir78_L1)) ir78_T5)))
def keep78 : List Nat := [0, 1, 2, 6, 7, 8, 9, 13, 30, 35, 54]
def res78 : List RI := []
theorem chk78 : chk Tryz.prog 78 3 keep78 = some (ir78, res78) := by kernel_rfl
def ir56 : Ir := (.reg [4, 5, 6, 7, 8] [om 4 0, om 5 0, o 6 (.len (tt 5)), om 7 1, o 8 (.call 78 [(tt 4), (tt 6), (tt 7)])])
def keep56 : List Nat := [0, 1]
def res56 : List RI := []
theorem chk56 : chk Tryz.prog 56 2 keep56 = some (ir56, res56) := by kernel_rfl
theorem c_symS (s : SK) (N : Nat) (D : Nat → Nat) (a m b : Int) (h : SkOk s ∧ N ≤ 1048576 ∧ 0 ≤ a ∧ a < m ∧ m < b ∧ b ≤ N ∧ (∀ i, i < N → D i < s.m) ∧ SrtS (sgL s) (sgK s) a.toNat m.toNat D ∧ SrtS (sgL s) (sgK s) m.toNat b.toNat D) :
    PSome Tryz.prog G0 86 [.own 0, AI a, AI m, AI b, sgFn s] [(0, OR N D)] (Nat → Nat) (fun D' => SegP a.toNat b.toNat D D' ∧ SrtS (sgL s) (sgK s) a.toNat b.toNat D') (fun _ => .tp []) (fun D' => [(0, OR N D')]) := by
  obtain ⟨ok, hN, h0, h1, h2, h3, h4, h5, h6⟩ := h
  exact c_symI s N (N + 1) D a m b ⟨c_sym s N ok hN _, h0, h1, h2, h3, by omega, h4, h5, h6⟩
theorem ev_stb : ∀ (s : SK) (N : Nat) (D : Nat → Nat), ev G0 res78 [(0, OR N D)] 3000 Or.nil [.ir ir78] (start [.own 0, AI ↑N, sgFn s] [(0, OR N D)]) = VC.loop ir78_L1 [.bend 0, .ir ir78_T5] (St.mk [(0, .own 100000), (1, AI ↑N), (2, AV.cl 57 [] [AV.p false (PV.pp ([PV.sl false 1 s.n (TR s.f), PV.sl false 1 s.m (RR s.w s.h), PV.sl false 1 s.m (MK s.r)].length - 0) fun j => [PV.sl false 1 s.n (TR s.f), PV.sl false 1 s.m (RR s.w s.h), PV.sl false 1 s.m (MK s.r)].getD (0 + j) PV.any), AV.p false (PV.pp ([roD s.c s.dn].length - 0) fun j => [roD s.c s.dn].getD (0 + j) PV.any)]), (6, AI 20), (7, AI 0), (8, AI 20)] [(100000, .row .u true 1 N (fun i x => PI (↑(D i) : Int)) [])]) := by intros; kernel_rfl
def st_stb (s : SK) (N : Nat) (x : Nat × (Nat → Nat)) : St := ⟨[(0, .own 100000), (1, AI N), (2, sgFn s), (6, AI 20), (7, AI x.1), (8, AI (x.1 + 20 : Nat))], [(100000, OR N x.2)]⟩
theorem evr_stb : ∀ (s : SK) (N : Nat) (D : Nat → Nat) (I : Nat × (Nat → Nat) → St → Prop) (x : Nat × (Nat → Nat)), ev G0 res78 [(0, OR N D)] 3000 ((Or.callE [100000] (Nat → Nat) (fun (D' : Nat → Nat) => SegP x.1 (x.1 + 20) x.2 D' ∧ SrtS (sgL s) (sgK s) x.1 (x.1 + 20) D') (fun (x_1 : Nat → Nat) => AV.tp []) (fun (D' : Nat → Nat) => [(0, OR N D')]) fun (D' : Nat → Nat) => Or.nil).split (Or.callE [100000] (Nat → Nat) (fun (D' : Nat → Nat) => SegP x.1 N x.2 D' ∧ SrtS (sgL s) (sgK s) x.1 N D') (fun (x_1 : Nat → Nat) => AV.tp []) (fun (D' : Nat → Nat) => [(0, OR N D')]) fun (D' : Nat → Nat) => Or.nil)) [.ir ir78_L1, .lend (I x), .bend 0, .ir ir78_T5] (st_stb s N x) = VC.split (decide ((↑(x.1 + 20) : Int) ≤ ↑N)) (VC.callE (Nat → Nat) 85 [.own 0, AI ↑x.1, AI (↑(x.1 + 20) : Int), AV.cl 57 [] [AV.p false (PV.pp ([PV.sl false 1 s.n (TR s.f), PV.sl false 1 s.m (RR s.w s.h), PV.sl false 1 s.m (MK s.r)].length - 0) fun j => [PV.sl false 1 s.n (TR s.f), PV.sl false 1 s.m (RR s.w s.h), PV.sl false 1 s.m (MK s.r)].getD (0 + j) PV.any), AV.p false (PV.pp ([roD s.c s.dn].length - 0) fun j => [roD s.c s.dn].getD (0 + j) PV.any)]] [(0, .row .u true 1 N (fun i x_1 => PI (↑(x.2 i) : Int)) [])] (fun (D' : Nat → Nat) => SegP x.1 (x.1 + 20) x.2 D' ∧ SrtS (sgL s) (sgK s) x.1 (x.1 + 20) D') (fun (x_1 : Nat → Nat) => AV.tp []) (fun (D' : Nat → Nat) => [(0, OR N D')]) fun (D' : Nat → Nat) => VC.lend (I x) (St.mk [(0, .own 100000), (1, AI ↑N), (2, AV.cl 57 [] [AV.p false (PV.pp ([PV.sl false 1 s.n (TR s.f), PV.sl false 1 s.m (RR s.w s.h), PV.sl false 1 s.m (MK s.r)].length - 0) fun j => [PV.sl false 1 s.n (TR s.f), PV.sl false 1 s.m (RR s.w s.h), PV.sl false 1 s.m (MK s.r)].getD (0 + j) PV.any), AV.p false (PV.pp ([roD s.c s.dn].length - 0) fun j => [roD s.c s.dn].getD (0 + j) PV.any)]), (6, AI 20), (7, AI (↑(x.1 + 20) : Int)), (8, AI (IntKind.i64.wrap ((↑(x.1 + 20) : Int) + 20))), (13, AB (decide ((↑(x.1 + 20) : Int) ≤ ↑N)))] [(100000, .row .u true 1 N (fun i x_1 => PI (↑(D' i) : Int)) [])])) (VC.callE (Nat → Nat) 85 [.own 0, AI ↑x.1, AI ↑N, AV.cl 57 [] [AV.p false (PV.pp ([PV.sl false 1 s.n (TR s.f), PV.sl false 1 s.m (RR s.w s.h), PV.sl false 1 s.m (MK s.r)].length - 0) fun j => [PV.sl false 1 s.n (TR s.f), PV.sl false 1 s.m (RR s.w s.h), PV.sl false 1 s.m (MK s.r)].getD (0 + j) PV.any), AV.p false (PV.pp ([roD s.c s.dn].length - 0) fun j => [roD s.c s.dn].getD (0 + j) PV.any)]] [(0, .row .u true 1 N (fun i x_1 => PI (↑(x.2 i) : Int)) [])] (fun (D' : Nat → Nat) => SegP x.1 N x.2 D' ∧ SrtS (sgL s) (sgK s) x.1 N D') (fun (x_1 : Nat → Nat) => AV.tp []) (fun (D' : Nat → Nat) => [(0, OR N D')]) fun (D' : Nat → Nat) => VC.loop ir78_L4 [.bend 2] (St.mk [(0, .own 100000), (1, AI ↑N), (2, AV.cl 57 [] [AV.p false (PV.pp ([PV.sl false 1 s.n (TR s.f), PV.sl false 1 s.m (RR s.w s.h), PV.sl false 1 s.m (MK s.r)].length - 0) fun j => [PV.sl false 1 s.n (TR s.f), PV.sl false 1 s.m (RR s.w s.h), PV.sl false 1 s.m (MK s.r)].getD (0 + j) PV.any), AV.p false (PV.pp ([roD s.c s.dn].length - 0) fun j => [roD s.c s.dn].getD (0 + j) PV.any)]), (6, AI 20), (7, AI ↑x.1), (8, AI (↑(x.1 + 20) : Int)), (13, AB (decide ((↑(x.1 + 20) : Int) ≤ ↑N)))] [(100000, .row .u true 1 N (fun i x_1 => PI (↑(D' i) : Int)) [])])) := by intros; kernel_rfl
def st_stb4 (s : SK) (N : Nat) (x : Nat × (Nat → Nat)) : St := ⟨[(0, .own 100000), (1, AI N), (2, sgFn s), (6, AI x.1)], [(100000, OR N x.2)]⟩
theorem evr_stb4 : ∀ (s : SK) (N : Nat) (D : Nat → Nat) (I : Nat × (Nat → Nat) → St → Prop) (x : Nat × (Nat → Nat)), ev G0 res78 [(0, OR N D)] 3000 (Or.nil.split Or.nil) [.ir ir78_L4, .lend (I x), .bend 2] (st_stb4 s N x) = VC.split (decide ((↑x.1 : Int) < ↑N)) (VC.loop ir78_L2 [.bend 4, .ir ir78_T3, .bend 3, .lend (I x), .bend 2] (St.mk [(0, .own 100000), (1, AI ↑N), (2, AV.cl 57 [] [AV.p false (PV.pp ([PV.sl false 1 s.n (TR s.f), PV.sl false 1 s.m (RR s.w s.h), PV.sl false 1 s.m (MK s.r)].length - 0) fun j => [PV.sl false 1 s.n (TR s.f), PV.sl false 1 s.m (RR s.w s.h), PV.sl false 1 s.m (MK s.r)].getD (0 + j) PV.any), AV.p false (PV.pp ([roD s.c s.dn].length - 0) fun j => [roD s.c s.dn].getD (0 + j) PV.any)]), (6, AI ↑x.1), (30, AB (decide ((↑x.1 : Int) < ↑N))), (7, AI 0), (8, AI (IntKind.i64.wrap (2 * (↑x.1 : Int))))] [(100000, .row .u true 1 N (fun i x_1 => PI (↑(x.2 i) : Int)) [])])) (VC.done (St.mk [(0, .own 100000), (1, AI ↑N), (2, AV.cl 57 [] [AV.p false (PV.pp ([PV.sl false 1 s.n (TR s.f), PV.sl false 1 s.m (RR s.w s.h), PV.sl false 1 s.m (MK s.r)].length - 0) fun j => [PV.sl false 1 s.n (TR s.f), PV.sl false 1 s.m (RR s.w s.h), PV.sl false 1 s.m (MK s.r)].getD (0 + j) PV.any), AV.p false (PV.pp ([roD s.c s.dn].length - 0) fun j => [roD s.c s.dn].getD (0 + j) PV.any)]), (6, AI ↑x.1), (30, AB (decide ((↑x.1 : Int) < ↑N)))] [(100000, .row .u true 1 N (fun i x_1 => PI (↑(x.2 i) : Int)) [])])) := by intros; kernel_rfl
def st_stb2 (s : SK) (N B : Nat) (x : Nat × (Nat → Nat)) : St := ⟨[(0, .own 100000), (1, AI N), (2, sgFn s), (6, AI B), (7, AI x.1), (8, AI (x.1 + 2 * B : Nat))], [(100000, OR N x.2)]⟩
theorem evr_stb2 : ∀ (s : SK) (N B : Nat) (D : Nat → Nat) (I J : Nat × (Nat → Nat) → St → Prop) (y x : Nat × (Nat → Nat)), ev G0 res78 [(0, OR N D)] 3000 ((Or.callE [100000] (Nat → Nat) (fun (D' : Nat → Nat) => SegP x.1 (↑(x.1 + 2 * B) : Int).toNat x.2 D' ∧ SrtS (sgL s) (sgK s) x.1 (↑(x.1 + 2 * B) : Int).toNat D') (fun (x_1 : Nat → Nat) => AV.tp []) (fun (D' : Nat → Nat) => [(0, OR N D')]) fun (D' : Nat → Nat) => Or.nil).split ((Or.callE [100000] (Nat → Nat) (fun (D' : Nat → Nat) => SegP x.1 N x.2 D' ∧ SrtS (sgL s) (sgK s) x.1 N D') (fun (x_1 : Nat → Nat) => AV.tp []) (fun (D' : Nat → Nat) => [(0, OR N D')]) fun (D' : Nat → Nat) => Or.nil).split Or.nil)) [.ir ir78_L2, .lend (J x), .bend 4, .ir ir78_T3, .bend 3, .lend (I y), .bend 2] (st_stb2 s N B x) = VC.split (decide ((↑(x.1 + 2 * B) : Int) ≤ ↑N)) (VC.callE (Nat → Nat) 86 [.own 0, AI ↑x.1, AI (IntKind.i64.wrap ((↑x.1 : Int) + ↑B)), AI (↑(x.1 + 2 * B) : Int), AV.cl 57 [] [AV.p false (PV.pp ([PV.sl false 1 s.n (TR s.f), PV.sl false 1 s.m (RR s.w s.h), PV.sl false 1 s.m (MK s.r)].length - 0) fun j => [PV.sl false 1 s.n (TR s.f), PV.sl false 1 s.m (RR s.w s.h), PV.sl false 1 s.m (MK s.r)].getD (0 + j) PV.any), AV.p false (PV.pp ([roD s.c s.dn].length - 0) fun j => [roD s.c s.dn].getD (0 + j) PV.any)]] [(0, .row .u true 1 N (fun i x_1 => PI (↑(x.2 i) : Int)) [])] (fun (D' : Nat → Nat) => SegP x.1 (↑(x.1 + 2 * B) : Int).toNat x.2 D' ∧ SrtS (sgL s) (sgK s) x.1 (↑(x.1 + 2 * B) : Int).toNat D') (fun (x_1 : Nat → Nat) => AV.tp []) (fun (D' : Nat → Nat) => [(0, OR N D')]) fun (D' : Nat → Nat) => VC.lend (J x) (St.mk [(0, .own 100000), (1, AI ↑N), (2, AV.cl 57 [] [AV.p false (PV.pp ([PV.sl false 1 s.n (TR s.f), PV.sl false 1 s.m (RR s.w s.h), PV.sl false 1 s.m (MK s.r)].length - 0) fun j => [PV.sl false 1 s.n (TR s.f), PV.sl false 1 s.m (RR s.w s.h), PV.sl false 1 s.m (MK s.r)].getD (0 + j) PV.any), AV.p false (PV.pp ([roD s.c s.dn].length - 0) fun j => [roD s.c s.dn].getD (0 + j) PV.any)]), (6, AI ↑B), (7, AI (↑(x.1 + 2 * B) : Int)), (8, AI (IntKind.i64.wrap ((↑(x.1 + 2 * B) : Int) + IntKind.i64.wrap (2 * (↑B : Int))))), (35, AB (decide ((↑(x.1 + 2 * B) : Int) ≤ ↑N)))] [(100000, .row .u true 1 N (fun i x_1 => PI (↑(D' i) : Int)) [])])) (VC.split (decide (IntKind.i64.wrap ((↑x.1 : Int) + ↑B) < (↑N : Int))) (VC.callE (Nat → Nat) 86 [.own 0, AI ↑x.1, AI (IntKind.i64.wrap ((↑x.1 : Int) + ↑B)), AI ↑N, AV.cl 57 [] [AV.p false (PV.pp ([PV.sl false 1 s.n (TR s.f), PV.sl false 1 s.m (RR s.w s.h), PV.sl false 1 s.m (MK s.r)].length - 0) fun j => [PV.sl false 1 s.n (TR s.f), PV.sl false 1 s.m (RR s.w s.h), PV.sl false 1 s.m (MK s.r)].getD (0 + j) PV.any), AV.p false (PV.pp ([roD s.c s.dn].length - 0) fun j => [roD s.c s.dn].getD (0 + j) PV.any)]] [(0, .row .u true 1 N (fun i x_1 => PI (↑(x.2 i) : Int)) [])] (fun (D' : Nat → Nat) => SegP x.1 N x.2 D' ∧ SrtS (sgL s) (sgK s) x.1 N D') (fun (x_1 : Nat → Nat) => AV.tp []) (fun (D' : Nat → Nat) => [(0, OR N D')]) fun (D' : Nat → Nat) => VC.lend (I y) (St.mk [(0, .own 100000), (1, AI ↑N), (2, AV.cl 57 [] [AV.p false (PV.pp ([PV.sl false 1 s.n (TR s.f), PV.sl false 1 s.m (RR s.w s.h), PV.sl false 1 s.m (MK s.r)].length - 0) fun j => [PV.sl false 1 s.n (TR s.f), PV.sl false 1 s.m (RR s.w s.h), PV.sl false 1 s.m (MK s.r)].getD (0 + j) PV.any), AV.p false (PV.pp ([roD s.c s.dn].length - 0) fun j => [roD s.c s.dn].getD (0 + j) PV.any)]), (6, AI (IntKind.i64.wrap ((↑B : Int) * 2))), (7, AI ↑x.1), (8, AI (↑(x.1 + 2 * B) : Int)), (35, AB (decide ((↑(x.1 + 2 * B) : Int) ≤ ↑N))), (9, AI (IntKind.i64.wrap ((↑x.1 : Int) + ↑B))), (54, AB (decide (IntKind.i64.wrap ((↑x.1 : Int) + ↑B) < (↑N : Int))))] [(100000, .row .u true 1 N (fun i x_1 => PI (↑(D' i) : Int)) [])])) (VC.lend (I y) (St.mk [(0, .own 100000), (1, AI ↑N), (2, AV.cl 57 [] [AV.p false (PV.pp ([PV.sl false 1 s.n (TR s.f), PV.sl false 1 s.m (RR s.w s.h), PV.sl false 1 s.m (MK s.r)].length - 0) fun j => [PV.sl false 1 s.n (TR s.f), PV.sl false 1 s.m (RR s.w s.h), PV.sl false 1 s.m (MK s.r)].getD (0 + j) PV.any), AV.p false (PV.pp ([roD s.c s.dn].length - 0) fun j => [roD s.c s.dn].getD (0 + j) PV.any)]), (6, AI (IntKind.i64.wrap ((↑B : Int) * 2))), (7, AI ↑x.1), (8, AI (↑(x.1 + 2 * B) : Int)), (35, AB (decide ((↑(x.1 + 2 * B) : Int) ≤ ↑N))), (9, AI (IntKind.i64.wrap ((↑x.1 : Int) + ↑B))), (54, AB (decide (IntKind.i64.wrap ((↑x.1 : Int) + ↑B) < (↑N : Int))))] [(100000, .row .u true 1 N (fun i x_1 => PI (↑(x.2 i) : Int)) [])]))) := by intros; kernel_rfl
abbrev SorP (s : SK) (N : Nat) (D D' : Nat → Nat) : Prop := SegP 0 N D D' ∧ SrtS (sgL s) (sgK s) 0 N D'
section
variable {β : Type} {lt : β → β → Bool} {K : Nat → β}
def Blk (lt : β → β → Bool) (K : Nat → β) (B a : Nat) (D : Nat → Nat) : Prop := ∀ k, k * B + B ≤ a → SrtS lt K (k * B) (k * B + B) D
def Rest (lt : β → β → Bool) (K : Nat → β) (B a N : Nat) (D : Nat → Nat) : Prop := ∀ k, a ≤ k * B → SrtS lt K (k * B) (min (k * B + B) N) D
theorem tri (k q B : Nat) : k * B + B ≤ q * B ∨ k * B = q * B ∨ q * B + B ≤ k * B := by
  rcases Nat.lt_trichotomy k q with h | h | h
  · exact .inl (by have := Nat.mul_le_mul_right B (show k + 1 ≤ q from h); rw [Nat.add_mul, Nat.one_mul] at this; exact this)
  · exact .inr (.inl (by rw [h]))
  · exact .inr (.inr (by have := Nat.mul_le_mul_right B (show q + 1 ≤ k from h); rw [Nat.add_mul, Nat.one_mul] at this; exact this))
theorem Blk.last {B q N : Nat} {D E : Nat → Nat} (h : Blk lt K B (q * B) D) (hP : SegP (q * B) N D E) (hS : SrtS lt K (q * B) N E) (hN : N < q * B + B) : Rest lt K B 0 N E := fun k _ => by
  rcases tri k q B with c | c | c
  · exact ((h k c).mono (Nat.le_refl _) (Nat.min_le_left _ _)).congr fun i h1 h2 => hP.out i (.inl (by omega))
  · rw [c]; exact hS.mono (Nat.le_refl _) (Nat.min_le_right _ _)
  · intro p r h1 h2 h3; omega
theorem Blk.next {B q : Nat} {D E : Nat → Nat} (h : Blk lt K B (q * B) D) (hP : SegP (q * B) (q * B + B) D E) (hS : SrtS lt K (q * B) (q * B + B) E) : Blk lt K B ((q + 1) * B) E := fun k hk => by
  rw [Nat.add_mul, Nat.one_mul] at hk
  rcases tri k q B with c | c | c
  · exact (h k c).congr fun i h1 h2 => hP.out i (.inl (by omega))
  · rw [c]; exact hS
  · intro p r h1 h2 h3
    have : B = 0 := by omega
    omega
theorem Rest.next {B a a' b N : Nat} {D E : Nat → Nat} (h : Rest lt K B a N D) (hP : SegP a b D E) (hb : b ≤ a') (ha : a ≤ a') : Rest lt K B a' N E := fun k hk =>
  (h k (by omega)).congr fun i h1 h2 => hP.out i (.inr (by omega))
end
theorem hm_seg {s : SK} {N a b : Nat} {D E : Nat → Nat} (hD : ∀ i, i < N → D i < s.m) (hP : SegP a b D E) (hb : b ≤ N) : ∀ i, i < N → E i < s.m := fun i hi => by
  by_cases c : a ≤ i ∧ i < b
  · exact hP.all (p := fun x => x < s.m) (fun k h1 h2 => hD k (by omega)) i c.1 c.2
  · rw [hP.out i (by omega)]; exact hD i hi
theorem c_stb (s : SK) (N : Nat) (D : Nat → Nat) (h : SkOk s ∧ N ≤ 524288 ∧ ∀ i, i < N → D i < s.m) : PSome Tryz.prog G0 78 [.own 0, AI N, sgFn s] [(0, OR N D)] (Nat → Nat) (SorP s N D) (fun _ => .tp []) (fun D' => [(0, OR N D')]) := by
  obtain ⟨ok, hN, hD⟩ := h
  refine PCall.by chk78 rfl (ev_stb s N D) ?_
  refine loop_by (st_stb s N) (fun x => (∃ q, x.1 = q * 20) ∧ x.1 ≤ N ∧ SegP 0 N D x.2 ∧ Blk (sgL s) (sgK s) 20 x.1 x.2) (fun x => N - x.1) (0, D) [] [] [] ⟨⟨0, rfl⟩, Nat.zero_le _, .refl _ _ _, fun k hk => by simp only [] at hk; omega⟩ ?_ (evr_stb s N D) fun x hx => ?_
  · simp [st_stb, leA, PV.Le_self, AV.leCs]
  · obtain ⟨a, E⟩ := x
    obtain ⟨⟨q, hq⟩, haN, hE, hB⟩ := hx
    simp only [] at hq haN hE hB
    have hEm := hm_seg hD hE (Nat.le_refl _)
    simp only [vcA]
    refine ⟨fun h1 => ?_, fun h1 => ?_⟩
    · refine ⟨c_ins s N E a (a + 20) ⟨ok, by omega, by omega, by omega, hEm⟩, fun F hF => Again.mk (a + 20, F) [] [] [] ⟨⟨q + 1, by simp only []; omega⟩, by simp only []; omega, hE.trans (hF.1.mono (Nat.zero_le _) (by omega)), ?_⟩ (by simp only []; omega) ?_⟩
      · subst hq
        have := Blk.next hB hF.1 hF.2
        rwa [Nat.add_mul, Nat.one_mul] at this
      · have e : IntKind.i64.wrap (((a + 20 : Nat) : Int) + 20) = ((a + 20 + 20 : Nat) : Int) := wrap_in (by omega) (by omega)
        simp only [e]
        simp [st_stb, leA, PV.Le_self, AV.leCs]
    · refine ⟨c_ins s N E a N ⟨ok, by omega, by omega, by omega, hEm⟩, fun F hF => ?_⟩
      have hR : Rest (sgL s) (sgK s) 20 0 N F := by
        subst hq
        exact Blk.last hB hF.1 hF.2 (by omega)
      have hP : SegP 0 N D F := hE.trans (hF.1.mono (Nat.zero_le _) (Nat.le_refl _))
      refine loop_by (st_stb4 s N) (fun x => 20 ≤ x.1 ∧ x.1 ≤ 2 * N + 20 ∧ SegP 0 N D x.2 ∧ Rest (sgL s) (sgK s) x.1 0 N x.2) (fun x => N - x.1) (20, F) [] [] [] ⟨Nat.le_refl _, by simp only []; omega, hP, hR⟩ ?_ (evr_stb4 s N D) fun x hx => ?_
      · simp [st_stb4, leA, PV.Le_self, AV.leCs]
      · obtain ⟨B, G⟩ := x
        obtain ⟨hB20, hBN, hPG, hRG⟩ := hx
        simp only [] at hB20 hBN hPG hRG
        have e1 : IntKind.i64.wrap (2 * (B : Int)) = ((2 * B : Nat) : Int) := (wrap_in (by omega) (by omega)).trans (by omega)
        have e2 : IntKind.i64.wrap ((B : Int) * 2) = ((2 * B : Nat) : Int) := (wrap_in (by omega) (by omega)).trans (by omega)
        simp only [vcA, e1]
        refine ⟨fun h2 => ?_, fun h2 => ?_⟩
        · refine loop_by (st_stb2 s N B) (fun x => (∃ q, x.1 = q * (2 * B)) ∧ x.1 ≤ N ∧ SegP 0 N D x.2 ∧ Blk (sgL s) (sgK s) (2 * B) x.1 x.2 ∧ Rest (sgL s) (sgK s) B x.1 N x.2) (fun x => N - x.1) (0, G) [] [] [] ⟨⟨0, by simp⟩, Nat.zero_le _, hPG, fun k hk => by simp only [] at hk; omega, hRG⟩ ?_ (fun J y => evr_stb2 s N B D _ J _ y) fun y hy => ?_
          · simp [st_stb2, leA, PV.Le_self, AV.leCs]
          · obtain ⟨a, E⟩ := y
            obtain ⟨⟨q, hq⟩, haN, hE, hBl, hRe⟩ := hy
            simp only [] at hq haN hE hBl hRe
            have hEm := hm_seg hD hE (Nat.le_refl _)
            have e3 : IntKind.i64.wrap ((a : Int) + B) = ((a + B : Nat) : Int) := wrap_in (by omega) (by omega)
            have e4 : IntKind.i64.wrap (((a + 2 * B : Nat) : Int) + ((2 * B : Nat) : Int)) = ((a + 2 * B + 2 * B : Nat) : Int) := wrap_in (by omega) (by omega)
            have r0 := hRe (2 * q) (by rw [hq, Nat.mul_comm 2 q, Nat.mul_assoc]; exact Nat.le_refl _)
            have r1 := hRe (2 * q + 1) (by rw [hq, Nat.add_mul, Nat.mul_comm 2 q, Nat.mul_assoc]; omega)
            have m0 : 2 * q * B = a := by rw [hq, Nat.mul_comm 2 q, Nat.mul_assoc]
            have m1 : (2 * q + 1) * B = a + B := by rw [Nat.add_mul, m0, Nat.one_mul]
            rw [m0] at r0
            rw [m1] at r1
            simp only [vcA, e1, e2, e3, e4]
            refine ⟨fun h3 => ?_, fun h3 => ⟨fun h4 => ?_, fun h4 => ?_⟩⟩
            · have s0 : SrtS (sgL s) (sgK s) a (a + B) E := r0.mono (Nat.le_refl _) (by omega)
              have s1 : SrtS (sgL s) (sgK s) (a + B) (a + 2 * B) E := r1.mono (Nat.le_refl _) (by omega)
              refine ⟨c_symS s N E (a : Int) ((a + B : Nat) : Int) ((a + 2 * B : Nat) : Int) ⟨ok, by omega, by omega, by omega, by omega, by omega, hEm, by simpa only [Int.toNat_natCast] using s0, by simpa only [Int.toNat_natCast] using s1⟩, fun H hH => ?_⟩
              try simp only [Int.toNat_natCast] at hH
              obtain ⟨k1, k2⟩ := hH
              refine Again.mk (a + 2 * B, H) [] [] [] ⟨⟨q + 1, by simp only []; rw [Nat.add_mul, Nat.one_mul, ← hq]⟩, by simp only []; omega, hE.trans (k1.mono (Nat.zero_le _) (by omega)), ?_, hRe.next k1 (Nat.le_refl _) (by simp only []; omega)⟩ (by simp only []; omega) ?_
              · subst hq
                have := Blk.next hBl k1 k2
                rwa [Nat.add_mul, Nat.one_mul] at this
              · simp [st_stb2, leA, PV.Le_self, AV.leCs]
            · have s0 : SrtS (sgL s) (sgK s) a (a + B) E := r0.mono (Nat.le_refl _) (by omega)
              have s1 : SrtS (sgL s) (sgK s) (a + B) N E := r1.mono (Nat.le_refl _) (by omega)
              refine ⟨c_symS s N E (a : Int) ((a + B : Nat) : Int) (N : Int) ⟨ok, by omega, by omega, by omega, by omega, by omega, hEm, by simpa only [Int.toNat_natCast] using s0, by simpa only [Int.toNat_natCast] using s1⟩, fun H hH => ?_⟩
              try simp only [Int.toNat_natCast] at hH
              obtain ⟨k1, k2⟩ := hH
              refine Again.mk (2 * B, H) [] [] [] ⟨by simp only []; omega, by simp only []; omega, hE.trans (k1.mono (Nat.zero_le _) (Nat.le_refl _)), ?_⟩ (by simp only []; omega) ?_
              · have hlt : N < q * (2 * B) + 2 * B := by rw [← hq]; omega
                subst hq
                exact Blk.last hBl k1 k2 hlt
              · simp [st_stb4, leA, PV.Le_self, AV.leCs]
            · have s0 : SrtS (sgL s) (sgK s) a N E := r0.mono (Nat.le_refl _) (by omega)
              refine Again.mk (2 * B, E) [] [] [] ⟨by simp only []; omega, by simp only []; omega, hE, ?_⟩ (by simp only []; omega) ?_
              · have hlt : N < q * (2 * B) + 2 * B := by rw [← hq]; omega
                subst hq
                exact Blk.last hBl (.refl _ _ _) s0 hlt
              · simp [st_stb4, leA, PV.Le_self, AV.leCs]
        · have hfin : SrtS (sgL s) (sgK s) 0 N G := by
            have := hRG 0 (by omega)
            rw [Nat.zero_mul, Nat.zero_add] at this
            exact this.mono (Nat.le_refl _) (by omega)
          refine ResOk.mk [] [(0, 100000)] [] _ _ ?_ ⟨G, ⟨hPG, hfin⟩, rfl, rfl⟩
          simp [doneC, resOf, resAV, tup, pinR, PV.Le_self, leA, res78]
theorem ev_stF : ∀ (s : SK) (N : Nat) (D : Nat → Nat), ev G0 res56 [(0, OR N D)] 3000 (Or.callE [100000] (Nat → Nat) (SorP s N D) (fun (x : Nat → Nat) => AV.tp []) (fun (D' : Nat → Nat) => [(0, OR N D')]) fun (x : Nat → Nat) => Or.nil) [.ir ir56] (start [.own 0, sgFn s] [(0, OR N D)]) = VC.callE (Nat → Nat) 78 [.own 0, AI ↑N, AV.cl 57 [] [AV.p false (PV.pp ([PV.sl false 1 s.n (TR s.f), PV.sl false 1 s.m (RR s.w s.h), PV.sl false 1 s.m (MK s.r)].length - 0) fun j => [PV.sl false 1 s.n (TR s.f), PV.sl false 1 s.m (RR s.w s.h), PV.sl false 1 s.m (MK s.r)].getD (0 + j) PV.any), AV.p false (PV.pp ([roD s.c s.dn].length - 0) fun j => [roD s.c s.dn].getD (0 + j) PV.any)]] [(0, .row .u true 1 N (fun i x => PI (↑(D i) : Int)) [])] (SorP s N D) (fun (x : Nat → Nat) => AV.tp []) (fun (D' : Nat → Nat) => [(0, OR N D')]) fun (x : Nat → Nat) => VC.done (St.mk [(0, .own 100000), (1, AV.cl 57 [] [AV.p false (PV.pp ([PV.sl false 1 s.n (TR s.f), PV.sl false 1 s.m (RR s.w s.h), PV.sl false 1 s.m (MK s.r)].length - 0) fun j => [PV.sl false 1 s.n (TR s.f), PV.sl false 1 s.m (RR s.w s.h), PV.sl false 1 s.m (MK s.r)].getD (0 + j) PV.any), AV.p false (PV.pp ([roD s.c s.dn].length - 0) fun j => [roD s.c s.dn].getD (0 + j) PV.any)])] [(100000, .row .u true 1 N (fun i x_1 => PI (↑(x i) : Int)) [])]) := by intros; kernel_rfl
theorem c_stF (s : SK) (N : Nat) (D : Nat → Nat) (h : SkOk s ∧ N ≤ 524288 ∧ ∀ i, i < N → D i < s.m) : PSome Tryz.prog G0 56 [.own 0, sgFn s] [(0, OR N D)] (Nat → Nat) (SorP s N D) (fun _ => .tp []) (fun D' => [(0, OR N D')]) := by
  refine PCall.by chk56 rfl (ev_stF s N D) ?_
  simp only [vcA]
  refine ⟨c_stb s N D h, fun F hF => ResOk.mk [] [(0, 100000)] [] _ _ ?_ ⟨F, hF, rfl, rfl⟩⟩
  simp [doneC, resOf, resAV, tup, pinR, PV.Le_self, leA, res56]
end Go.Gw
