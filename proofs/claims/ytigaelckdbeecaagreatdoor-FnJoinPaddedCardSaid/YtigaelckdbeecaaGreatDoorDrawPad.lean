/- Padded tables drawn; with no condition. -/
import Derived.Test.YtigaelckdbeecaaGreatDoorDrawTab3
import Derived.Test.YtigaelckdbeecaaGreatDoorPadB
import Derived.KernelRfl
namespace Go.Gw
open Go Go.Proofs
set_option linter.unusedSimpArgs false
set_option linter.unusedVariables false
set_option maxRecDepth 100000
def ir16_C1 : Ir := (.seq (.reg [43, 44, 45, 46, 47] [oa 43 2 9, ol 44 43, om 45 10, ox 46 44 45, ol 47 46, o 48 (.un .not (tt 47))]) (.cond (tt 48) (.dreg [49, 50, 51, 52, 53, 54, 55, 56] [0, 1, 0, 0, 8, 24, 56, 127, 255] [(1, 1050), (4, 1053), (6, 55)] [oa 49 1 9, ol 50 49, om 51 10, oa 52 0 9, ol 53 52, o 54 (.len (tt 53)), o 55 (.mkSlc 1 8 [(.int .i64 0)] (tt 54) (tt 54)), ox 56 50 51, on (.store 1 (tt 56) (tt 55))]) .skip))
def ir16_E1 : Ir := (.reg [33, 34] [om 33 10, o 34 (.bin .add (tt 33) (ci 1)), om 10 34])
def ir16_L1 : Ir := (.seq (.seq (.reg [28, 29, 30, 31] [om 28 10, oa 29 1 9, ol 30 29, o 31 (.len (tt 30)), ob .lss 32 28 31]) (.cond (tt 32) .skip (.exit 0))) (.seq (.block 1 (.seq (.dreg [35, 36, 37, 38, 39, 40, 41, 42] [0, 1, 0, 4, 12, 28, 63, 127, 255] [(1, 1036), (3, 1038), (3, 2038), (3, 3038), (3, 4038), (3, 5038), (3, 6038), (3, 7038), (3, 8038), (5, 40), (6, 41)] [oa 35 2 9, ol 36 35, om 37 0, o 38 (.call 17 [(tt 37), (ci 3)]), o 39 (.bin .gtr (tt 38) (ci 0)), o 40 (.mkSl 1 1 [(.bool false)] [(0, (tt 39))]), o 41 (.app 1 1 true (tt 36) (tt 40)), oa 42 2 9, on (.store 1 (tt 42) (tt 41))]) ir16_C1)) ir16_E1))
def ir16_F1 : Ir := (.reg [97, 98] [om 97 11, o 98 (.idx 1 (tt 97) (ci 0)), on (.store 1 (tt 98) (ci 1))])
def ir16_G1 : Ir := (.reg [99, 100, 101, 102, 103, 104] [oa 99 1 9, ol 100 99, om 101 11, o 102 (.mkSl 1 1 [(.slice none 0 0)] [(0, (tt 101))]), o 103 (.app 1 24 false (tt 100) (tt 102)), oa 104 1 9, on (.store 1 (tt 104) (tt 103))])
def ir16_H1 : Ir := (.reg [105, 106, 107, 108, 109] [oa 105 2 9, ol 106 105, o 107 (.mkSl 1 1 [(.bool false)] [(0, (cb false))]), o 108 (.app 1 1 true (tt 106) (tt 107)), oa 109 2 9, on (.store 1 (tt 109) (tt 108))])
def ir16_T2 : Ir := (.seq (.seq (.reg [57, 58] [om 57 0, om 58 3, o 59 (.call 53 [(tt 57), (tt 58)])]) (.cond (tt 59) (.seq (.reg [60] [om 60 0, o 61 (.call 17 [(tt 60), (ci 4)])]) (.block 2 (.seq (.reg [74] [o 74 (.bin .eql (tt 61) (ci 0)), om 73 74]) (.cond (tt 73) (.reg [75, 76, 77, 78, 79] [oa 75 2 9, ol 76 75, o 77 (.mkSl 1 1 [(.bool false)] [(0, (cb true))]), o 78 (.app 1 1 true (tt 76) (tt 77)), oa 79 2 9, on (.store 1 (tt 79) (tt 78))]) (.seq (.reg [81] [o 81 (.bin .eql (tt 61) (ci 1)), om 80 81]) (.cond (tt 80) (.dreg [82, 83, 84, 85, 86, 87, 88, 89, 90] [0, 1, 0, 4, 12, 28, 60, 127, 255, 511] [(1, 1083), (3, 1085), (5, 1087), (6, 88), (7, 89)] [oa 82 0 9, ol 83 82, oa 84 0 9, ol 85 84, o 86 (.idx 1 (tt 85) (ci 0)), ol 87 86, o 88 (.mkSl 1 1 [(.string ⟨#[]⟩)] [(0, (tt 87))]), o 89 (.app 1 16 true (tt 83) (tt 88)), oa 90 0 9, on (.store 1 (tt 90) (tt 89))]) (.seq (.reg [92] [o 92 (.bin .eql (tt 61) (ci 2)), om 91 92]) (.cond (tt 91) (.seq (.reg [93, 94, 95, 96] [oa 93 0 9, ol 94 93, o 95 (.len (tt 94)), o 96 (.mkSlc 1 8 [(.int .i64 0)] (tt 95) (tt 95)), om 11 96]) (.seq ir16_F1 (.seq ir16_G1 ir16_H1))) (.seq (.reg [62, 63, 64, 65, 66, 67] [oa 62 1 9, ol 63 62, o 64 (.mkSl 1 0 [(.int .i64 0)] []), o 65 (.mkSl 1 1 [(.slice none 0 0)] [(0, (tt 64))]), o 66 (.app 1 24 false (tt 63) (tt 65)), oa 67 1 9, on (.store 1 (tt 67) (tt 66))]) (.reg [68, 69, 70, 71, 72] [oa 68 2 9, ol 69 68, o 70 (.mkSl 1 1 [(.bool false)] [(0, (cb true))]), o 71 (.app 1 1 true (tt 69) (tt 70)), oa 72 2 9, on (.store 1 (tt 72) (tt 71))])))))))))) .skip)) (.seq (.reg [110] [o 110 (.load true 3 (tt 9)), on (.store 3 (tt 8) (tt 110))]) .ret))
def ir16 : Ir := (.seq (.reg [] [o 8 (.alloc [(.slice none 0 0), (.slice none 0 0), (.slice none 0 0)])]) (.seq (.reg [12, 13, 14, 15, 16, 17] [o 12 (.mkSl 1 0 [(.string ⟨#[]⟩)] []), om 13 0, om 14 1, o 15 (.call 51 [(tt 13), (tt 14)]), o 16 (.app 1 16 true (tt 12) (tt 15)), o 17 (.build [(.slice none 0 0), (.slice none 0 0), (.slice none 0 0)] [(0, 1, (tt 16))]), o 9 (.alloc [(.slice none 0 0), (.slice none 0 0), (.slice none 0 0)]), on (.store 3 (tt 9) (tt 17))]) (.seq (.dreg [18, 19, 20, 21, 22, 23, 24, 25, 26, 27] [0, 0, 2, 6, 0, 0, 32, 112, 255, 511, 1023] [(2, 1020), (7, 1025), (7, 2025), (7, 3025), (7, 4025), (7, 5025), (7, 6025), (7, 7025), (7, 8025), (8, 1026), (8, 2026), (8, 3026), (8, 4026), (8, 5026), (8, 6026), (8, 7026), (8, 8026)] [om 18 0, oa 19 0 9, ol 20 19, o 21 (.len (tt 20)), om 22 0, om 23 2, o 24 (.bin .add (tt 23) (ci 1)), o 25 (.call 17 [(tt 22), (tt 24)]), o 26 (.call 52 [(tt 18), (tt 21), (tt 25)]), oa 27 1 9, on (.store 1 (tt 27) (tt 26))]) (.seq (.seq (.reg [] [o 10 (.mov (ci 0))]) (.block 0 (.loop ir16_L1))) ir16_T2))))
def keep16 : List Nat := [0, 1, 2, 3, 8, 9, 10, 11, 32, 48, 59, 61, 73, 80, 91]
def res16 : List RI := [.cell true 3 8]
theorem chk16 : chk Tryz.prog 16 4 keep16 = some (ir16, res16) := by kernel_rfl
theorem c_dNamesP (nn : Bool) (n : Nat) (f : Nat → Int) (p : Nat) (k : Int) (hb : Bytes f) (hp : p ≤ 1000000000 - 2) (hk : 0 ≤ k ∧ k ≤ 2) : PObj Tryz.prog G0 51 [.adr 0 0, AI k] [(0, RD nn n f p)] (.own 1) (nmH nn n f (p + 2) (nmV n f p k)) := (c_dNamesV nn n f p k hb hp hk).1
theorem ev_dPad : ∀ (nn : Bool) (n : Nat) (f : Nat → Int) (p : Nat) (k M m : Int), ev G0 res16 [(0, RD nn n f p)] 3000 (Or.call [100000] (.own 1) (nmH nn n f (p + 2) (nmV n f p k)) (Or.call [100000] (AI (pickV n f (p + 2) (IntKind.i64.wrap (M + 1)))) [(0, RD nn n f (p + 2 + 1))] (Or.call [100000] (.own 1) [(0, RD nn n f (p + 2 + 1 + 4 * ((pickV n f (p + 2) (IntKind.i64.wrap (M + 1))).toNat * (↑(0 + (nmV n f p k).length) : Int).toNat))), (1, .row .u false 1 (pickV n f (p + 2) (IntKind.i64.wrap (M + 1))).toNat (RR (fun x => (↑(0 + (nmV n f p k).length) : Int).toNat) fun i j => cellV n f (p + 2 + 1 + 4 * (i * (↑(0 + (nmV n f p k).length) : Int).toNat) + 4 * j)) [])] Or.nil))) [.ir ir16] (start [.adr 0 0, AI k, AI M, AI m] [(0, RD nn n f p)]) = VC.call 51 [.adr 0 0, AI k] [(0, .box [SL nn 1 n (PB f), AI ↑p])] (.own 1) (nmH nn n f (p + 2) (nmV n f p k)) (VC.need (((0 + (nmV n f p k).length) * 16 ≤ 140737488355328 ∧ (↑(0 + (nmV n f p k).length) : Int) ≤ 9223372036854775807) ∧ allV 1 (nmV n f p k).length (TR (litS (nmV n f p k)))) (VC.call 17 [.adr 0 0, AI (IntKind.i64.wrap (M + 1))] [(0, .box [SL nn 1 n (PB f), AI (↑(p + 2) : Int)])] (AI (pickV n f (p + 2) (IntKind.i64.wrap (M + 1)))) [(0, RD nn n f (p + 2 + 1))] (VC.call 52 [.adr 0 0, AI (↑(0 + (nmV n f p k).length) : Int), AI (pickV n f (p + 2) (IntKind.i64.wrap (M + 1)))] [(0, .box [SL nn 1 n (PB f), AI (↑(p + 2 + 1) : Int)])] (.own 1) [(0, RD nn n f (p + 2 + 1 + 4 * ((pickV n f (p + 2) (IntKind.i64.wrap (M + 1))).toNat * (↑(0 + (nmV n f p k).length) : Int).toNat))), (1, .row .u false 1 (pickV n f (p + 2) (IntKind.i64.wrap (M + 1))).toNat (RR (fun x => (↑(0 + (nmV n f p k).length) : Int).toNat) fun i j => cellV n f (p + 2 + 1 + 4 * (i * (↑(0 + (nmV n f p k).length) : Int).toNat) + 4 * j)) [])] (VC.loop ir16_L1 [.bend 0, .ir ir16_T2] (St.mk [(0, .adr 100000 0), (1, AI k), (2, AI M), (3, AI m), (8, .adr 8 0), (9, .adr 9 0), (10, AI 0)] [(100000, .box [SL nn 1 n (PB f), AI (↑(p + 2 + 1 + 4 * ((pickV n f (p + 2) (IntKind.i64.wrap (M + 1))).toNat * (↑(0 + (nmV n f p k).length) : Int).toNat)) : Int)]), (8, .box [AV.p true (PV.v (Value.slice none 0 0)), AV.p true (PV.v (Value.slice none 0 0)), AV.p true (PV.v (Value.slice none 0 0))]), (16, .row .u true 1 (0 + (nmV n f p k).length) (fun a b => if a < 0 then setG [] (fun x j => PV.v ([Value.string (ByteArray.mk #[])].getD j undef)) a b else TR (litS (nmV n f p k)) (a - 0) b) []), (9, .box [.own 16, .own 1026, AV.p true (PV.v (Value.slice none 0 0))]), (1026, .row .u false 1 (pickV n f (p + 2) (IntKind.i64.wrap (M + 1))).toNat (RR (fun x => (↑(0 + (nmV n f p k).length) : Int).toNat) fun i j => cellV n f (p + 2 + 1 + 4 * (i * (↑(0 + (nmV n f p k).length) : Int).toNat) + 4 * j)) [])]))))) := by intros; kernel_rfl
abbrev XP := Nat × (Nat → Nat → Int) × (Nat → Bool)
def st_dPad (nn : Bool) (n : Nat) (f : Nat → Int) (p : Nat) (m : Int) (N : Nat) (F : Nat → ByteArray) (M : Nat) (x : XP) : St := ⟨[(0, .adr 100000 0), (3, AI m), (8, .adr 8 0), (9, .adr 9 0), (10, AI x.1)], [(100000, RD nn n f (p + x.1)), (8, .box [.p true (.v (.slice none 0 0)), .p true (.v (.slice none 0 0)), .p true (.v (.slice none 0 0))]), (16, .row .u true 1 N (TR F) []), (1026, .row .u false 1 M (RR (fun _ => N) x.2.1) []), (77777, .row .u false 1 x.1 (MK x.2.2) []), (9, .box [.own 16, .own 1026, .own 77777])]⟩
theorem evr_dPad : ∀ (nn : Bool) (n : Nat) (f : Nat → Int) (p0 p : Nat) (m : Int) (N : Nat) (F : Nat → ByteArray) (M : Nat) (I : XP → St → Prop) (x : XP), ev G0 res16 [(0, RD nn n f p0)] 3000 ((Or.call [100000] (AI (pickV n f (p + x.1) 3)) [(0, RD nn n f (p + x.1 + 1))] (Or.stop 7)).split (Or.stop 1)) [.ir ir16_L1, .lend (I x), .bend 0, .ir ir16_T2] (st_dPad nn n f p m N F M x) = VC.split (decide ((↑x.1 : Int) < ↑M)) (VC.call 17 [.adr 0 0, AI 3] [(0, .box [SL nn 1 n (PB f), AI (↑(p + x.1) : Int)])] (AI (pickV n f (p + x.1) 3)) [(0, RD nn n f (p + x.1 + 1))] (VC.need (((x.1 + 1) * 1 ≤ 140737488355328 ∧ (↑(x.1 + 1) : Int) ≤ 9223372036854775807) ∧ allV 1 1 (setG [(0, 0, PV.v (Value.bool (decide (0 < pickV n f (p + x.1) 3))))] fun x_1 j => PV.v ([Value.bool false].getD j undef))) (VC.stop [.ir ir16_C1, .bend 1, .ir ir16_E1, .lend (I x), .bend 0, .ir ir16_T2] (St.mk [(0, .adr 100000 0), (3, AI m), (8, .adr 8 0), (9, .adr 9 0), (10, AI ↑x.1), (32, AB (decide ((↑x.1 : Int) < ↑M)))] [(100000, .box [SL nn 1 n (PB f), AI (↑(p + x.1 + 1) : Int)]), (8, .box [AV.p true (PV.v (Value.slice none 0 0)), AV.p true (PV.v (Value.slice none 0 0)), AV.p true (PV.v (Value.slice none 0 0))]), (16, .row .u true 1 N (TR F) []), (1026, .row .u false 1 M (RR (fun x_1 => N) x.2.1) []), (9, .box [.own 16, .own 1026, .own 41]), (41, .row .u false 1 (x.1 + 1) (fun a b => if a < x.1 then MK x.2.2 a b else setG [(0, 0, PV.v (Value.bool (decide (0 < pickV n f (p + x.1) 3))))] (fun x_1 j => PV.v ([Value.bool false].getD j undef)) (a - x.1) b) [])])))) (VC.stop [.ir ir16_T2] (St.mk [(0, .adr 100000 0), (3, AI m), (8, .adr 8 0), (9, .adr 9 0), (10, AI ↑x.1), (32, AB (decide ((↑x.1 : Int) < ↑M)))] [(100000, .box [SL nn 1 n (PB f), AI (↑(p + x.1) : Int)]), (8, .box [AV.p true (PV.v (Value.slice none 0 0)), AV.p true (PV.v (Value.slice none 0 0)), AV.p true (PV.v (Value.slice none 0 0))]), (16, .row .u true 1 N (TR F) []), (1026, .row .u false 1 M (RR (fun x_1 => N) x.2.1) []), (77777, .row .u false 1 x.1 (MK x.2.2) []), (9, .box [.own 16, .own 1026, .own 77777])])) := by intros; kernel_rfl
def st_dPadC (nn : Bool) (n : Nat) (f : Nat → Int) (p : Nat) (m : Int) (N : Nat) (F : Nat → ByteArray) (M : Nat) (k : Nat) (h : Nat → Nat → Int) (r : Nat → Bool) : St := ⟨[(0, .adr 100000 0), (3, AI m), (8, .adr 8 0), (9, .adr 9 0), (10, AI k)], [(100000, RD nn n f (p + k + 1)), (8, .box [.p true (.v (.slice none 0 0)), .p true (.v (.slice none 0 0)), .p true (.v (.slice none 0 0))]), (16, .row .u true 1 N (TR F) []), (1026, .row .u false 1 M (RR (fun _ => N) h) []), (77777, .row .u false 1 (k + 1) (MK r) []), (9, .box [.own 16, .own 1026, .own 77777])]⟩
theorem evr_dPadC : ∀ (nn : Bool) (n : Nat) (f : Nat → Int) (p0 p : Nat) (m : Int) (N : Nat) (F : Nat → ByteArray) (M k : Nat) (h : Nat → Nat → Int) (r : Nat → Bool) (I : XP → St → Prop) (x : XP), ev G0 res16 [(0, RD nn n f p0)] 3000 (Or.nil.split Or.nil) [.ir ir16_C1, .bend 1, .ir ir16_E1, .lend (I x), .bend 0, .ir ir16_T2] (st_dPadC nn n f p m N F M k h r) = VC.need (0 ≤ (↑k : Int) ∧ k < k + 1) (VC.need (k < k + 1) (VC.split (!r k) (VC.need (0 ≤ (↑N : Int) ∧ (↑N : Int) ≤ ↑N ∧ (↑8 : Int) * ↑N ≤ 281474976710656 ∧ (↑N : Int) ≤ 9223372036854775807) (VC.need (0 ≤ (↑k : Int) ∧ k < M) (VC.need (k < M) (VC.lend (I x) (St.mk [(0, .adr 100000 0), (3, AI m), (8, .adr 8 0), (9, .adr 9 0), (10, AI (IntKind.i64.wrap ((↑k : Int) + 1))), (48, AB !r k)] [(100000, .box [SL nn 1 n (PB f), AI (↑(p + k + 1) : Int)]), (8, .box [AV.p true (PV.v (Value.slice none 0 0)), AV.p true (PV.v (Value.slice none 0 0)), AV.p true (PV.v (Value.slice none 0 0))]), (16, .row .u true 1 N (TR F) []), (1026, .row .u false 1 M (setG [(k, 0, PV.sl true 1 N fun x_1 j => PV.v ([Value.int IntKind.i64 0].getD j undef))] (RR (fun x_1 => N) h)) []), (77777, .row .u false 1 (k + 1) (MK r) []), (9, .box [.own 16, .own 1026, .own 77777])]))))) (VC.lend (I x) (St.mk [(0, .adr 100000 0), (3, AI m), (8, .adr 8 0), (9, .adr 9 0), (10, AI (IntKind.i64.wrap ((↑k : Int) + 1))), (48, AB !r k)] [(100000, .box [SL nn 1 n (PB f), AI (↑(p + k + 1) : Int)]), (8, .box [AV.p true (PV.v (Value.slice none 0 0)), AV.p true (PV.v (Value.slice none 0 0)), AV.p true (PV.v (Value.slice none 0 0))]), (16, .row .u true 1 N (TR F) []), (1026, .row .u false 1 M (RR (fun x_1 => N) h) []), (77777, .row .u false 1 (k + 1) (MK r) []), (9, .box [.own 16, .own 1026, .own 77777])])))) := by intros; kernel_rfl
def st_dPadT (nn : Bool) (n : Nat) (f : Nat → Int) (p : Nat) (m : Int) (N : Nat) (F : Nat → ByteArray) (M : Nat) (h : Nat → Nat → Int) (K : Nat) (r : Nat → Bool) : St := ⟨[(0, .adr 100000 0), (3, AI m), (8, .adr 8 0), (9, .adr 9 0)], [(100000, RD nn n f p), (8, .box [.p true (.v (.slice none 0 0)), .p true (.v (.slice none 0 0)), .p true (.v (.slice none 0 0))]), (16, .row .u true 1 N (TR F) []), (1026, .row .u false 1 M (RR (fun _ => N) h) []), (77777, .row .u false 1 K (MK r) []), (9, .box [.own 16, .own 1026, .own 77777])]⟩
theorem evr_dPadT : ∀ (nn : Bool) (n : Nat) (f : Nat → Int) (p0 p : Nat) (m : Int) (N : Nat) (F : Nat → ByteArray) (M : Nat) (h : Nat → Nat → Int) (K : Nat) (r : Nat → Bool), ev G0 res16 [(0, RD nn n f p0)] 3000 (Or.call [100000] (AB (oddV n f p m)) [(0, RD nn n f (oddP p m))] ((Or.call [100000] (AI (pickV n f (oddP p m) 4)) [(0, RD nn n f (oddP p m + 1))] (Or.nil.split (Or.nil.split (Or.nil.split Or.nil)))).split Or.nil)) [.ir ir16_T2] (st_dPadT nn n f p m N F M h K r) = VC.call 53 [.adr 0 0, AI m] [(0, .box [SL nn 1 n (PB f), AI ↑p])] (AB (oddV n f p m)) [(0, RD nn n f (oddP p m))] (VC.split (oddV n f p m) (VC.call 17 [.adr 0 0, AI 4] [(0, .box [SL nn 1 n (PB f), AI (↑(oddP p m) : Int)])] (AI (pickV n f (oddP p m) 4)) [(0, RD nn n f (oddP p m + 1))] (VC.split (pickV n f (oddP p m) (4 : Int) == 0) (VC.need (((K + 1) * 1 ≤ 140737488355328 ∧ (↑(K + 1) : Int) ≤ 9223372036854775807) ∧ allV 1 1 (setG [(0, 0, PV.v (Value.bool true))] fun x j => PV.v ([Value.bool false].getD j undef))) (VC.done (St.mk [(0, .adr 100000 0), (3, AI m), (8, .adr 8 0), (9, .adr 9 0), (59, AB (oddV n f p m)), (61, AI (pickV n f (oddP p m) 4)), (73, AB (pickV n f (oddP p m) (4 : Int) == 0))] [(100000, .box [SL nn 1 n (PB f), AI (↑(oddP p m + 1) : Int)]), (8, .box [.own 16, .own 1026, .own 78]), (16, .row .u true 1 N (TR F) []), (1026, .row .u false 1 M (RR (fun x => N) h) []), (9, .box [.own 16, .own 1026, .own 78]), (78, .row .u false 1 (K + 1) (fun a b => if a < K then MK r a b else setG [(0, 0, PV.v (Value.bool true))] (fun x j => PV.v ([Value.bool false].getD j undef)) (a - K) b) [])]))) (VC.split (pickV n f (oddP p m) (4 : Int) == 1) (VC.need ((0 : Int) ≤ 0 ∧ Int.toNat 0 < N) (VC.need (0 < N) (VC.need (((N + 1) * 16 ≤ 140737488355328 ∧ (↑(N + 1) : Int) ≤ 9223372036854775807) ∧ allV 1 1 (setG [(0, 0, PV.v (Value.string (F 0)))] fun x j => PV.v ([Value.string (ByteArray.mk #[])].getD j undef))) (VC.done (St.mk [(0, .adr 100000 0), (3, AI m), (8, .adr 8 0), (9, .adr 9 0), (59, AB (oddV n f p m)), (61, AI (pickV n f (oddP p m) 4)), (73, AB (pickV n f (oddP p m) (4 : Int) == 0)), (80, AB (pickV n f (oddP p m) (4 : Int) == 1))] [(100000, .box [SL nn 1 n (PB f), AI (↑(oddP p m + 1) : Int)]), (8, .box [.own 89, .own 1026, .own 77777]), (1026, .row .u false 1 M (RR (fun x => N) h) []), (77777, .row .u false 1 K (MK r) []), (9, .box [.own 89, .own 1026, .own 77777]), (89, .row .u true 1 (N + 1) (fun a b => if a < N then TR F a b else setG [(0, 0, PV.v (Value.string (F 0)))] (fun x j => PV.v ([Value.string (ByteArray.mk #[])].getD j undef)) (a - N) b) [])]))))) (VC.split (pickV n f (oddP p m) (4 : Int) == 2) (VC.need (0 ≤ (↑N : Int) ∧ (↑N : Int) ≤ ↑N ∧ (↑8 : Int) * ↑N ≤ 281474976710656 ∧ (↑N : Int) ≤ 9223372036854775807) (VC.need ((0 : Int) ≤ 0 ∧ Int.toNat 0 < N) (VC.need (0 < N) (VC.need (((M + 1) * 24 ≤ 140737488355328 ∧ (↑(M + 1) : Int) ≤ 9223372036854775807) ∧ allOne 1 1 (setG [(0, 0, PV.sl true 1 N (setG [(0, 0, PV.v (Value.int IntKind.i64 1))] fun x j => PV.v ([Value.int IntKind.i64 0].getD j undef)))] fun x j => PV.v ([Value.slice none 0 0].getD j undef))) (VC.need (((K + 1) * 1 ≤ 140737488355328 ∧ (↑(K + 1) : Int) ≤ 9223372036854775807) ∧ allV 1 1 (setG [(0, 0, PV.v (Value.bool false))] fun x j => PV.v ([Value.bool false].getD j undef))) (VC.done (St.mk [(0, .adr 100000 0), (3, AI m), (8, .adr 8 0), (9, .adr 9 0), (59, AB (oddV n f p m)), (61, AI (pickV n f (oddP p m) 4)), (73, AB (pickV n f (oddP p m) (4 : Int) == 0)), (80, AB (pickV n f (oddP p m) (4 : Int) == 1)), (91, AB (pickV n f (oddP p m) (4 : Int) == 2)), (11, .own 96)] [(100000, .box [SL nn 1 n (PB f), AI (↑(oddP p m + 1) : Int)]), (8, .box [.own 16, .own 103, .own 108]), (16, .row .u true 1 N (TR F) []), (9, .box [.own 16, .own 103, .own 108]), (103, .row .u false 1 (M + 1) (fun a b => if a < M then RR (fun x => N) h a b else setG [(0, 0, PV.sl true 1 N (setG [(0, 0, PV.v (Value.int IntKind.i64 1))] fun x j => PV.v ([Value.int IntKind.i64 0].getD j undef)))] (fun x j => PV.v ([Value.slice none 0 0].getD j undef)) (a - M) b) []), (108, .row .u false 1 (K + 1) (fun a b => if a < K then MK r a b else setG [(0, 0, PV.v (Value.bool false))] (fun x j => PV.v ([Value.bool false].getD j undef)) (a - K) b) [])]))))))) (VC.need (((M + 1) * 24 ≤ 140737488355328 ∧ (↑(M + 1) : Int) ≤ 9223372036854775807) ∧ allOne 1 1 (setG [(0, 0, PV.sl true 1 0 (setG [] fun x j => PV.v ([Value.int IntKind.i64 0].getD j undef)))] fun x j => PV.v ([Value.slice none 0 0].getD j undef))) (VC.need (((K + 1) * 1 ≤ 140737488355328 ∧ (↑(K + 1) : Int) ≤ 9223372036854775807) ∧ allV 1 1 (setG [(0, 0, PV.v (Value.bool true))] fun x j => PV.v ([Value.bool false].getD j undef))) (VC.done (St.mk [(0, .adr 100000 0), (3, AI m), (8, .adr 8 0), (9, .adr 9 0), (59, AB (oddV n f p m)), (61, AI (pickV n f (oddP p m) 4)), (73, AB (pickV n f (oddP p m) (4 : Int) == 0)), (80, AB (pickV n f (oddP p m) (4 : Int) == 1)), (91, AB (pickV n f (oddP p m) (4 : Int) == 2))] [(100000, .box [SL nn 1 n (PB f), AI (↑(oddP p m + 1) : Int)]), (8, .box [.own 16, .own 66, .own 71]), (16, .row .u true 1 N (TR F) []), (9, .box [.own 16, .own 66, .own 71]), (66, .row .u false 1 (M + 1) (fun a b => if a < M then RR (fun x => N) h a b else setG [(0, 0, PV.sl true 1 0 (setG [] fun x j => PV.v ([Value.int IntKind.i64 0].getD j undef)))] (fun x j => PV.v ([Value.slice none 0 0].getD j undef)) (a - M) b) []), (71, .row .u false 1 (K + 1) (fun a b => if a < K then MK r a b else setG [(0, 0, PV.v (Value.bool true))] (fun x j => PV.v ([Value.bool false].getD j undef)) (a - K) b) [])])))))))) (VC.done (St.mk [(0, .adr 100000 0), (3, AI m), (8, .adr 8 0), (9, .adr 9 0), (59, AB (oddV n f p m))] [(100000, .box [SL nn 1 n (PB f), AI (↑(oddP p m) : Int)]), (8, .box [.own 16, .own 1026, .own 77777]), (16, .row .u true 1 N (TR F) []), (1026, .row .u false 1 M (RR (fun x => N) h) []), (77777, .row .u false 1 K (MK r) []), (9, .box [.own 16, .own 1026, .own 77777])]))) := by intros; kernel_rfl
structure DP where
  n : Nat
  f : Nat → ByteArray
  m : Nat
  w : Nat → Nat
  h : Nat → Nat → Int
  k : Nat
  r : Nat → Bool
  p : Nat
structure DpOk (p M : Nat) (d : DP) : Prop where
  hn : d.n ≤ 4
  hf : ∀ i, i < d.n → (d.f i).size ≤ 5
  hm : d.m ≤ M + 1
  hk : d.k ≤ M + 1
  hw : ∀ i, i < d.m → d.w i ≤ 3
  hp : p ≤ d.p ∧ d.p ≤ p + 400
  hv : padB d.n d.f d.m d.w d.h d.k d.r = true → d.m ≤ M
abbrev dpR (_ : DP) : AV := .ag [.own 1, .own 2, .own 3]
abbrev dpH (nn : Bool) (n : Nat) (f : Nat → Int) (d : DP) : List (Nat × Ob) := [(0, RD nn n f d.p), (1, .row .u false 1 d.n (TR d.f) []), (2, .row .u false 1 d.m (RR d.w d.h) []), (3, .row .u false 1 d.k (MK d.r) [])]
def padE (n : Nat) (f : Nat → Int) (yb : Bool) (yq N : Nat) (F : Nat → ByteArray) (M : Nat) (h : Nat → Nat → Int) (r : Nat → Bool) : DP :=
  if yb then
    (if pickV n f yq 4 = 0 then ⟨N, F, M, fun _ => N, h, M + 1, fun i => if i < M then r i else true, yq + 1⟩
    else if pickV n f yq 4 = 1 then ⟨N + 1, fun i => if i < N then F i else F 0, M, fun _ => N, h, M, r, yq + 1⟩
    else if pickV n f yq 4 = 2 then ⟨N, F, M + 1, fun _ => N, fun i j => if i < M then h i j else if j = 0 then 1 else 0, M + 1, fun i => if i < M then r i else false, yq + 1⟩
    else ⟨N, F, M + 1, fun i => if i < M then N else 0, h, M + 1, fun i => if i < M then r i else true, yq + 1⟩)
  else ⟨N, F, M, fun _ => N, h, M, r, yq⟩
def hkE (r : Nat → Bool) (C : Nat → Nat → Int) (k i j : Nat) : Int := if i < k ∧ r i = false then 0 else C i j
def dpW (n : Nat) (f : Nat → Int) (p : Nat) (X : List ByteArray) (M : Nat) (m : Int) : DP :=
  padE n f (oddV n f (p + 2 + 1 + 4 * (M * X.length) + M) m) (oddP (p + 2 + 1 + 4 * (M * X.length) + M) m) X.length (litS X) M (hkE (fun i => decide (0 < pickV n f (p + 2 + 1 + 4 * (M * X.length) + i) 3)) (fun i j => cellV n f (p + 2 + 1 + 4 * (i * X.length) + 4 * j)) M) fun i => decide (0 < pickV n f (p + 2 + 1 + 4 * (M * X.length) + i) 3)
def dpV (n : Nat) (f : Nat → Int) (p : Nat) (k Mx m : Int) : DP := dpW n f p (nmV n f p k) (pickV n f (p + 2) (Mx + 1)).toNat m
abbrev DpPost (nn : Bool) (n : Nat) (f : Nat → Int) (p M : Nat) (D : DP) : AV → List (Nat × Ob) → Prop := fun x h => ∃ y : DP, (DpOk p M y ∧ y = D) ∧ x = dpR y ∧ h = dpH nn n f y
theorem pad_no {n : Nat} {f : Nat → ByteArray} {m : Nat} {w : Nat → Nat} {h : Nat → Nat → Int} {k : Nat} {r : Nat → Bool} {i : Nat} (hi : i < m) (hb : rowB n w h i = false ∨ zB w h r i = false) : padB n f m w h k r = false := by
  rcases hb with hb | hb
  · simp only [padB, rowsB, allB_no (p := rowB n w h) hi hb, Bool.and_false, Bool.false_and]
  · simp only [padB, allB_no hi hb, Bool.and_false]
theorem dPad_T (nn : Bool) (n : Nat) (f : Nat → Int) (p0 p : Nat) (m : Int) (N : Nat) (F : Nat → ByteArray) (M Mx : Nat) (h : Nat → Nat → Int) (r : Nat → Bool) (hb : Bytes f) (hp : p0 ≤ p ∧ p ≤ p0 + 380) (hp0 : p0 ≤ 10000) (hN : 1 ≤ N ∧ N ≤ 3) (hF : ∀ i, (F i).size ≤ 5) (hM : M ≤ Mx) (hMx : Mx ≤ 20) : Go.Gw.M Tryz.prog G0 (Post res16 [(0, RD nn n f p0)] (DpPost nn n f p0 Mx (padE n f (oddV n f p m) (oddP p m) N F M h r))) [Item.ir ir16_T2] (st_dPadT nn n f p m N F M h M r) := by
  refine Go.Gw.M.by [] [] [] ?_ (evr_dPadT nn n f p0 p m N F M h M r) ?_
  · simp [st_dPadT, leA, PV.Le_self]
  · simp only [vcA, Int.toNat_natCast]
    have co := c_odd nn n f p m hb (by omega)
    have hy1 := oddP_ge p m
    have hy2 := oddP_le p m
    generalize oddV n f p m = yb at *
    generalize oddP p m = yq at *
    refine ⟨co, ?_⟩
    refine ⟨fun h1 => ⟨c_pick _ _ _ _ _ hb (by omega), fun h2 => ⟨⟨⟨by omega, by omega⟩, allV1 rfl⟩, ?_⟩, fun h2 => ⟨fun h3 => ⟨⟨by omega, by omega⟩, by omega, ⟨⟨by omega, by omega⟩, allV1 rfl⟩, ?_⟩, fun h3 => ⟨fun h4 => ⟨⟨by omega, by omega, by (try simp); omega, by omega⟩, ⟨by omega, by omega⟩, by omega, ⟨⟨by omega, by omega⟩, allOne1 rfl⟩, ⟨⟨by omega, by omega⟩, allV1 rfl⟩, ?_⟩, fun h4 => ⟨⟨⟨by omega, by omega⟩, allOne1 rfl⟩, ⟨⟨by omega, by omega⟩, allV1 rfl⟩, ?_⟩⟩⟩⟩, fun h1 => ?_⟩
    · refine ResOk.mk [] [(0, 100000), (1, 16), (2, 1026), (3, 78)] [] _ _ ?_ ⟨⟨N, F, M, fun _ => N, h, M + 1, fun i => if i < M then r i else true, yq + 1⟩, ⟨⟨by simp only []; omega, fun i _ => hF i, by simp only []; omega, by simp only []; omega, fun i _ => by simp only []; omega, by simp only []; omega, fun _ => by simp only []; omega⟩, by unfold padE; simp_all⟩, rfl, rfl⟩
      simp [doneC, resOf, resAV, tup, pinR, PV.Le_self, leA, res16]
      intro i hi
      by_cases e : i < M
      · simp [e]; exact MK_le (by simp [e])
      · simp [e, setG, cellSet, show i - M = 0 by omega]; exact MK_le' (by simp [e])
    · refine ResOk.mk [] [(0, 100000), (1, 89), (2, 1026), (3, 77777)] [] _ _ ?_ ⟨⟨N + 1, fun i => if i < N then F i else F 0, M, fun _ => N, h, M, r, yq + 1⟩, ⟨⟨by simp only []; omega, fun i _ => by simp only []; split <;> exact hF _, by simp only []; omega, by simp only []; omega, fun i _ => by simp only []; omega, by simp only []; omega, fun _ => by simp only []; omega⟩, by unfold padE; simp_all⟩, rfl, rfl⟩
      simp [doneC, resOf, resAV, tup, pinR, PV.Le_self, leA, res16]
      intro i hi
      by_cases e : i < N
      · simp [e]; exact TR_le (by simp [e])
      · simp [e, setG, cellSet, show i - N = 0 by omega]; exact TR_le' (by simp [e])
    · refine ResOk.mk [] [(0, 100000), (1, 16), (2, 103), (3, 108)] [] _ _ ?_ ⟨⟨N, F, M + 1, fun _ => N, fun i j => if i < M then h i j else if j = 0 then 1 else 0, M + 1, fun i => if i < M then r i else false, yq + 1⟩, ⟨⟨by simp only []; omega, fun i _ => hF i, by simp only []; omega, by simp only []; omega, fun i _ => by simp only []; omega, by simp only []; omega, fun e => ?_⟩, by unfold padE; simp_all⟩, rfl, rfl⟩
      · simp [doneC, resOf, resAV, tup, pinR, PV.Le_self, leA, res16]
        refine ⟨fun i hi => ?_, fun i hi => ?_⟩
        · by_cases e : i < M
          · simp [e]
            exact RR_le rfl fun j hj => by simp only [e, if_true]
          · obtain rfl : i = M := by omega
            simp [setG, cellSet]
            refine .sl _ _ (fun e => (by cases e)) 1 _ _ _ _ rfl fun j l hj hl => ?_
            obtain rfl : l = 0 := by omega
            by_cases e2 : j = 0
            · subst e2; simp; exact .refl _
            · simp [e2, cellSet]; exact .refl _
        · by_cases e : i < M
          · simp [e]; exact MK_le (by simp [e])
          · simp [e, setG, cellSet, show i - M = 0 by omega]; exact MK_le' (by simp [e])
      · simp only [] at e ⊢
        rw [pad_no (i := M) (by omega) (.inr ?_)] at e
        · cases e
        · simp only [zB, Nat.lt_irrefl, if_false, Bool.false_or]
          exact allB_no (show 0 < N by omega) (by simp)
    · refine ResOk.mk [] [(0, 100000), (1, 16), (2, 66), (3, 71)] [] _ _ ?_ ⟨⟨N, F, M + 1, fun i => if i < M then N else 0, h, M + 1, fun i => if i < M then r i else true, yq + 1⟩, ⟨⟨by simp only []; omega, fun i _ => hF i, by simp only []; omega, by simp only []; omega, fun i _ => by simp only []; split <;> omega, by simp only []; omega, fun e => ?_⟩, by unfold padE; simp_all⟩, rfl, rfl⟩
      · simp [doneC, resOf, resAV, tup, pinR, PV.Le_self, leA, res16]
        refine ⟨fun i hi => ?_, fun i hi => ?_⟩
        · by_cases e : i < M
          · simp [e]
            exact RR_le (by simp only [e, if_true]) fun j hj => rfl
          · obtain rfl : i = M := by omega
            simp [setG, cellSet]
            refine .sl _ _ (fun e => (by cases e)) 1 _ _ _ _ (by simp) fun j l hj hl => ?_
            omega
        · by_cases e : i < M
          · simp [e]; exact MK_le (by simp [e])
          · simp [e, setG, cellSet, show i - M = 0 by omega]; exact MK_le' (by simp [e])
      · simp only [] at e ⊢
        rw [pad_no (i := M) (by omega) (.inl ?_)] at e
        · cases e
        · have : ¬ 0 = N := by omega
          simp [rowB, this]
    · refine ResOk.mk [] [(0, 100000), (1, 16), (2, 1026), (3, 77777)] [] _ _ ?_ ⟨⟨N, F, M, fun _ => N, h, M, r, yq⟩, ⟨⟨by simp only []; omega, fun i _ => hF i, by simp only []; omega, by simp only []; omega, fun i _ => by simp only []; omega, by simp only []; omega, fun _ => by simp only []; omega⟩, by unfold padE; simp_all⟩, rfl, rfl⟩
      simp [doneC, resOf, resAV, tup, pinR, PV.Le_self, leA, res16]
theorem c_dPadE (nn : Bool) (n : Nat) (f : Nat → Int) (p : Nat) (k Mx m : Int) (hb : Bytes f) (hp : p ≤ 10000) (hk : 0 ≤ k ∧ k ≤ 2) (hMx : 0 ≤ Mx ∧ Mx ≤ 20) : PSome Tryz.prog G0 16 [.adr 0 0, AI k, AI Mx, AI m] [(0, RD nn n f p)] DP (fun y => DpOk p Mx.toNat y ∧ y = dpV n f p k Mx m) dpR (dpH nn n f) := by
  refine PCall.by chk16 rfl (ev_dPad nn n f p k Mx m) ?_
  have e0 : IntKind.i64.wrap (Mx + 1) = Mx + 1 := wrap_in (by omega) (by omega)
  simp only [vcA, Nat.zero_add, Int.toNat_natCast, e0]
  have r1 := pick_rng (n := n) (p := p + 2) (m := Mx + 1) hb (by omega) (by omega)
  refine ⟨c_dNamesP nn n f p k hb (by omega) hk, ?_⟩
  obtain ⟨x1, x2, x3⟩ := (c_dNamesV nn n f p k hb (by omega) hk).2
  have xs : ∀ i, (litS (nmV n f p k) i).size ≤ 5 := fun i => litS_of (φ := fun y => y.size ≤ 5) x3 (by decide) i
  have hV : dpV n f p k Mx m = dpW n f p (nmV n f p k) (pickV n f (p + 2) (Mx + 1)).toNat m := rfl
  rw [hV]
  generalize nmV n f p k = S at *
  have cp := c_pick nn n f (p + 2) (Mx + 1) hb (by omega)
  generalize pickV n f (p + 2) (Mx + 1) = M at *
  obtain ⟨M, rfl⟩ : ∃ M' : Nat, M = M' := ⟨M.toNat, by omega⟩
  try simp only [Int.toNat_natCast]
  have hMN : M * S.length ≤ 20 * 3 := Nat.mul_le_mul (by omega) (by omega)
  refine ⟨⟨⟨by omega, by omega⟩, allV_TR⟩, cp, c_dRows nn n f _ S.length M hb (by omega) (by omega) (by omega), ?_⟩
  unfold dpW
  generalize litS S = X at *
  generalize S.length = N at *
  generalize hC : (fun i j => cellV n f (p + 2 + 1 + 4 * (i * N) + 4 * j)) = C at *
  generalize hq : p + 2 + 1 + 4 * (M * N) = q at *
  generalize hrd : (fun i => decide (0 < pickV n f (q + i) 3)) = r at *
  have hr0 : ∀ i, r i = decide (0 < pickV n f (q + i) 3) := fun i => by rw [← hrd]
  refine loop_by (st_dPad nn n f q m N X M) (fun x => x.1 ≤ M ∧ x.2.1 = hkE r C x.1 ∧ x.2.2 = r) (fun x => M - x.1) (0, C, r) [] [] [77777] ⟨Nat.zero_le _, by funext i j; simp [hkE], rfl⟩ ?_ (fun I x => evr_dPad nn n f p q m N X M I x) fun x hx => ?_
  · simp [st_dPad, leA, PV.Le_self]
  · obtain ⟨k, h, r'⟩ := x
    simp only [] at hx
    obtain ⟨hx, rfl, rfl⟩ := hx
    have e1 : IntKind.i64.wrap ((k : Int) + 1) = ((k + 1 : Nat) : Int) := wrap_in (by omega) (by omega)
    simp only [vcA, Int.toNat_natCast]
    refine ⟨fun h1 => ⟨c_pick _ _ _ _ _ hb (by omega), ⟨⟨by omega, by omega⟩, allV1 rfl⟩, ?_⟩, fun h1 => ?_⟩
    · refine Go.Gw.M.by [] [(77777, 41)] [] ?_ (evr_dPadC nn n f p q m N X M k (hkE r' C k) r' _ _) ?_
      · simp [st_dPadC, leA, PV.Le_self]
        intro i hi
        by_cases e : i < k
        · simp [e]; exact MK_le rfl
        · simp [e, setG, cellSet, show i - k = 0 by omega]; exact MK_le' (by rw [show i = k by omega, hr0])
      · simp only [vcA, Int.toNat_natCast]
        refine ⟨⟨by omega, by omega⟩, by omega, fun h2 => ⟨⟨by omega, by omega, by (try simp); omega, by omega⟩, ⟨by omega, by omega⟩, by omega, Again.mk (k + 1, hkE r' C (k + 1), r') [] [] [] ⟨by simp only []; omega, rfl, rfl⟩ (by simp only []; omega) ?_⟩, fun h2 => Again.mk (k + 1, hkE r' C (k + 1), r') [] [] [] ⟨by simp only []; omega, rfl, rfl⟩ (by simp only []; omega) ?_⟩
        · simp only [Bool.not_eq_true'] at h2
          simp [st_dPad, leA, PV.Le_self, e1]
          refine ⟨by omega, fun i hi => ?_⟩
          by_cases e : i = k
          · subst e
            simp [setG, cellSet]
            refine .sl _ _ (fun e => (by cases e)) 1 _ _ _ _ rfl fun j l hj hl => ?_
            obtain rfl : l = 0 := by omega
            simp [hkE, h2]; exact .refl _
          · simp [setG, cellSet, e]
            exact RR_le rfl fun j hj => by
              have : (i < k + 1) = (i < k) := by rw [eq_iff_iff]; omega
              simp only [hkE, this]
        · simp only [Bool.not_eq_false'] at h2
          simp [st_dPad, leA, PV.Le_self, e1]
          refine ⟨by omega, fun i hi => RR_le rfl fun j hj => ?_⟩
          by_cases e : i = k
          · subst e; simp [hkE, h2]
          · have : (i < k + 1) = (i < k) := by rw [eq_iff_iff]; omega
            simp only [hkE, this]
    · have hkM : k = M := by omega
      subst hkM
      refine Go.Gw.M.wk (Wk.mk [] [] [] ?_) (dPad_T nn n f p (q + k) m N X k Mx.toNat (hkE r' C k) r' hb (by omega) (by omega) (by omega) (fun i => xs i) (by omega) (by omega))
      simp [st_dPadT, leA, PV.Le_self]
theorem padE_ok {n : Nat} {f : Nat → Int} {p0 yq N M Mx : Nat} {yb : Bool} {F : Nat → ByteArray} {h : Nat → Nat → Int} {r : Nat → Bool} (hp : p0 ≤ yq ∧ yq ≤ p0 + 390) (hN : 1 ≤ N ∧ N ≤ 3) (hF : ∀ i, (F i).size ≤ 5) (hM : M ≤ Mx) : DpOk p0 Mx (padE n f yb yq N F M h r) := by
  unfold padE
  split
  · split
    · exact ⟨by simp only []; omega, fun i _ => hF i, by simp only []; omega, by simp only []; omega, fun i _ => by simp only []; omega, by simp only []; omega, fun _ => by simp only []; omega⟩
    · split
      · exact ⟨by simp only []; omega, fun i _ => by simp only []; split <;> exact hF _, by simp only []; omega, by simp only []; omega, fun i _ => by simp only []; omega, by simp only []; omega, fun _ => by simp only []; omega⟩
      · split
        · refine ⟨by simp only []; omega, fun i _ => hF i, by simp only []; omega, by simp only []; omega, fun i _ => by simp only []; omega, by simp only []; omega, fun e => ?_⟩
          simp only [] at e ⊢
          rw [pad_no (i := M) (by omega) (.inr ?_)] at e
          · cases e
          · simp only [zB, Nat.lt_irrefl, if_false, Bool.false_or]
            exact allB_no (show 0 < N by omega) (by simp)
        · refine ⟨by simp only []; omega, fun i _ => hF i, by simp only []; omega, by simp only []; omega, fun i _ => by simp only []; split <;> omega, by simp only []; omega, fun e => ?_⟩
          simp only [] at e ⊢
          rw [pad_no (i := M) (by omega) (.inl ?_)] at e
          · cases e
          · have : ¬ 0 = N := by omega
            simp [rowB, this]
  · exact ⟨by simp only []; omega, fun i _ => hF i, by simp only []; omega, by simp only []; omega, fun i _ => by simp only []; omega, by simp only []; omega, fun _ => by simp only []; omega⟩
theorem dpV_ok {n : Nat} {f : Nat → Int} {p : Nat} {k Mx m : Int} (hb : Bytes f) (hp : p ≤ 10000) (hMx : 0 ≤ Mx ∧ Mx ≤ 20) : DpOk p Mx.toNat (dpV n f p k Mx m) := by
  have r1 := pick_rng (n := n) (p := p + 2) (m := Mx + 1) hb (by omega) (by omega)
  obtain ⟨x1, x2, x3⟩ := nmV_ok n f p k
  unfold dpV dpW
  generalize pickV n f (p + 2) (Mx + 1) = M at *
  have hMN : M.toNat * (nmV n f p k).length ≤ 20 * 3 := Nat.mul_le_mul (by omega) (by omega)
  have hy1 := oddP_ge (p + 2 + 1 + 4 * (M.toNat * (nmV n f p k).length) + M.toNat) m
  have hy2 := oddP_le (p + 2 + 1 + 4 * (M.toNat * (nmV n f p k).length) + M.toNat) m
  exact padE_ok (by omega) ⟨x1, x2⟩ (fun i => litS_of (φ := fun y => y.size ≤ 5) x3 (by decide) i) (by omega)
theorem c_dPadV (nn : Bool) (n : Nat) (f : Nat → Int) (p : Nat) (k Mx m : Int) (hh : Bytes f ∧ p ≤ 10000 ∧ (0 ≤ k ∧ k ≤ 2) ∧ 0 ≤ Mx ∧ Mx ≤ 20) : PObj Tryz.prog G0 16 [.adr 0 0, AI k, AI Mx, AI m] [(0, RD nn n f p)] (dpR (dpV n f p k Mx m)) (dpH nn n f (dpV n f p k Mx m)) :=
  PObj.imp (c_dPadE nn n f p k Mx m hh.1 hh.2.1 hh.2.2.1 hh.2.2.2) fun x h' ⟨y, h1, h2, h3⟩ => ⟨h1.2 ▸ h2, h1.2 ▸ h3⟩
end Go.Gw
