/- Padded tables drawn; with no condition. -/
import Derived.Test.YtigaelckdbeecaaDoorDrawTab3
import Derived.Test.YtigaelckdbeecaaDoorPadB
import Derived.KernelRfl
namespace Go.Gw
open Go Go.Proofs
set_option linter.unusedSimpArgs false
set_option linter.unusedVariables false
set_option maxRecDepth 100000
def ir19_C1 : Ir :=
  (.seq
   (.reg [43, 44, 45, 46, 47] [o 43 (.fadr 2 (tt 9)),
     o 44 (.load false 1 (tt 43)),
     o 45 (.mov (tt 10)),
     o 46 (.idx 1 (tt 44) (tt 45)),
     o 47 (.load false 1 (tt 46)),
     o 48 (.un .not (tt 47))])
   (.cond (tt 48)
    (.dreg [49, 50, 51, 52, 53, 54, 55, 56] [0, 1, 0, 0, 8, 24, 56, 127, 255] [(1, 1050), (4, 1053), (6, 55)] [o 49 (.fadr 1 (tt 9)),
      o 50 (.load false 1 (tt 49)),
      o 51 (.mov (tt 10)),
      o 52 (.fadr 0 (tt 9)),
      o 53 (.load false 1 (tt 52)),
      o 54 (.len (tt 53)),
      o 55 (.mkSlc 1 8 [(.int .i64 0)] (tt 54) (tt 54)),
      o 56 (.idx 1 (tt 50) (tt 51)),
      on (.store 1 (tt 56) (tt 55))])
    .skip))
def ir19_E1 : Ir :=
  (.reg [33, 34] [o 33 (.mov (tt 10)),
    o 34 (.bin .add (tt 33) (ci 1)),
    o 10 (.mov (tt 34))])
def ir19_L1 : Ir :=
  (.seq
  (.seq
  (.reg [28, 29, 30, 31] [o 28 (.mov (tt 10)),
    o 29 (.fadr 1 (tt 9)),
    o 30 (.load false 1 (tt 29)),
    o 31 (.len (tt 30)),
    o 32 (.bin .lss (tt 28) (tt 31))])
  (.cond (tt 32)
   .skip
   (.exit 0)))
  (.seq
  (.block 1
   (.seq
   (.dreg [35, 36, 37, 38, 39, 40, 41, 42] [0, 1, 0, 4, 12, 28, 63, 127, 255] [(1, 1036), (3, 1038), (3, 2038), (3, 3038), (3, 4038), (3, 5038), (3, 6038), (3, 7038), (3, 8038), (5, 40), (6, 41)] [o 35 (.fadr 2 (tt 9)),
     o 36 (.load false 1 (tt 35)),
     o 37 (.mov (tt 0)),
     o 38 (.call 20 [(tt 37), (ci 3)]),
     o 39 (.bin .gtr (tt 38) (ci 0)),
     o 40 (.mkSl 1 1 [(.bool false)] [(0, (tt 39))]),
     o 41 (.app 1 1 true (tt 36) (tt 40)),
     o 42 (.fadr 2 (tt 9)),
     on (.store 1 (tt 42) (tt 41))])
   ir19_C1))
  ir19_E1))
def ir19_F1 : Ir :=
  (.reg [97, 98] [o 97 (.mov (tt 11)),
         o 98 (.idx 1 (tt 97) (ci 0)),
         on (.store 1 (tt 98) (ci 1))])
def ir19_G1 : Ir :=
  (.reg [99, 100, 101, 102, 103, 104] [o 99 (.fadr 1 (tt 9)),
         o 100 (.load false 1 (tt 99)),
         o 101 (.mov (tt 11)),
         o 102 (.mkSl 1 1 [(.slice none 0 0)] [(0, (tt 101))]),
         o 103 (.app 1 24 false (tt 100) (tt 102)),
         o 104 (.fadr 1 (tt 9)),
         on (.store 1 (tt 104) (tt 103))])
def ir19_H1 : Ir :=
  (.reg [105, 106, 107, 108, 109] [o 105 (.fadr 2 (tt 9)),
         o 106 (.load false 1 (tt 105)),
         o 107 (.mkSl 1 1 [(.bool false)] [(0, (cb false))]),
         o 108 (.app 1 1 true (tt 106) (tt 107)),
         o 109 (.fadr 2 (tt 9)),
         on (.store 1 (tt 109) (tt 108))])
def ir19_T2 : Ir :=
  (.seq
  (.seq
  (.reg [57, 58] [o 57 (.mov (tt 0)),
    o 58 (.mov (tt 3)),
    o 59 (.call 51 [(tt 57), (tt 58)])])
  (.cond (tt 59)
   (.seq
   (.reg [60] [o 60 (.mov (tt 0)),
     o 61 (.call 20 [(tt 60), (ci 4)])])
   (.block 2
    (.seq
    (.reg [74] [o 74 (.bin .eql (tt 61) (ci 0)),
      o 73 (.mov (tt 74))])
    (.cond (tt 73)
     (.reg [75, 76, 77, 78, 79] [o 75 (.fadr 2 (tt 9)),
       o 76 (.load false 1 (tt 75)),
       o 77 (.mkSl 1 1 [(.bool false)] [(0, (cb true))]),
       o 78 (.app 1 1 true (tt 76) (tt 77)),
       o 79 (.fadr 2 (tt 9)),
       on (.store 1 (tt 79) (tt 78))])
     (.seq
     (.reg [81] [o 81 (.bin .eql (tt 61) (ci 1)),
       o 80 (.mov (tt 81))])
     (.cond (tt 80)
      (.dreg [82, 83, 84, 85, 86, 87, 88, 89, 90] [0, 1, 0, 4, 12, 28, 60, 127, 255, 511] [(1, 1083), (3, 1085), (5, 1087), (6, 88), (7, 89)] [o 82 (.fadr 0 (tt 9)),
        o 83 (.load false 1 (tt 82)),
        o 84 (.fadr 0 (tt 9)),
        o 85 (.load false 1 (tt 84)),
        o 86 (.idx 1 (tt 85) (ci 0)),
        o 87 (.load false 1 (tt 86)),
        o 88 (.mkSl 1 1 [(.string ⟨#[]⟩)] [(0, (tt 87))]),
        o 89 (.app 1 16 true (tt 83) (tt 88)),
        o 90 (.fadr 0 (tt 9)),
        on (.store 1 (tt 90) (tt 89))])
      (.seq
      (.reg [92] [o 92 (.bin .eql (tt 61) (ci 2)),
        o 91 (.mov (tt 92))])
      (.cond (tt 91)
       (.seq
       (.reg [93, 94, 95, 96] [o 93 (.fadr 0 (tt 9)),
         o 94 (.load false 1 (tt 93)),
         o 95 (.len (tt 94)),
         o 96 (.mkSlc 1 8 [(.int .i64 0)] (tt 95) (tt 95)),
         o 11 (.mov (tt 96))])
       (.seq
       ir19_F1
       (.seq
       ir19_G1
       ir19_H1)))
       (.seq
       (.reg [62, 63, 64, 65, 66, 67] [o 62 (.fadr 1 (tt 9)),
         o 63 (.load false 1 (tt 62)),
         o 64 (.mkSl 1 0 [(.int .i64 0)] []),
         o 65 (.mkSl 1 1 [(.slice none 0 0)] [(0, (tt 64))]),
         o 66 (.app 1 24 false (tt 63) (tt 65)),
         o 67 (.fadr 1 (tt 9)),
         on (.store 1 (tt 67) (tt 66))])
       (.reg [68, 69, 70, 71, 72] [o 68 (.fadr 2 (tt 9)),
         o 69 (.load false 1 (tt 68)),
         o 70 (.mkSl 1 1 [(.bool false)] [(0, (cb true))]),
         o 71 (.app 1 1 true (tt 69) (tt 70)),
         o 72 (.fadr 2 (tt 9)),
         on (.store 1 (tt 72) (tt 71))]))))))))))
   .skip))
  (.seq
  (.reg [110] [o 110 (.load true 3 (tt 9)),
    on (.store 3 (tt 8) (tt 110))])
  .ret))
def ir19 : Ir :=
  (.seq
  (.reg [] [o 8 (.alloc [(.slice none 0 0), (.slice none 0 0), (.slice none 0 0)])])
  (.seq
  (.reg [12, 13, 14, 15, 16, 17] [o 12 (.mkSl 1 0 [(.string ⟨#[]⟩)] []),
    o 13 (.mov (tt 0)),
    o 14 (.mov (tt 1)),
    o 15 (.call 49 [(tt 13), (tt 14)]),
    o 16 (.app 1 16 true (tt 12) (tt 15)),
    o 17 (.build [(.slice none 0 0), (.slice none 0 0), (.slice none 0 0)] [(0, 1, (tt 16))]),
    o 9 (.alloc [(.slice none 0 0), (.slice none 0 0), (.slice none 0 0)]),
    on (.store 3 (tt 9) (tt 17))])
  (.seq
  (.dreg [18, 19, 20, 21, 22, 23, 24, 25, 26, 27] [0, 0, 2, 6, 0, 0, 32, 112, 255, 511, 1023] [(2, 1020), (7, 1025), (7, 2025), (7, 3025), (7, 4025), (7, 5025), (7, 6025), (7, 7025), (7, 8025), (8, 1026), (8, 2026), (8, 3026), (8, 4026), (8, 5026), (8, 6026), (8, 7026), (8, 8026)] [o 18 (.mov (tt 0)),
    o 19 (.fadr 0 (tt 9)),
    o 20 (.load false 1 (tt 19)),
    o 21 (.len (tt 20)),
    o 22 (.mov (tt 0)),
    o 23 (.mov (tt 2)),
    o 24 (.bin .add (tt 23) (ci 1)),
    o 25 (.call 20 [(tt 22), (tt 24)]),
    o 26 (.call 50 [(tt 18), (tt 21), (tt 25)]),
    o 27 (.fadr 1 (tt 9)),
    on (.store 1 (tt 27) (tt 26))])
  (.seq
  (.seq
  (.reg [] [o 10 (.mov (ci 0))])
  (.block 0
   (.loop ir19_L1)))
  ir19_T2))))
def keep19 : List Nat := [0, 1, 2, 3, 8, 9, 10, 11, 32, 48, 59, 61, 73, 80, 91]
def res19 : List RI := [.cell true 3 8]
theorem chk19 : chk Tryd.prog 19 4 keep19 = some (ir19, res19) := by kernel_rfl

theorem ev_dPad : ∀ (nn : Bool) (n : Nat) (f : Nat → Int) (p : Nat) (k M m : Int), ev G0 res19 [((0 : Nat), RD nn n f p)] (3000 : Nat) (Or.callE [(100000 : Nat)] (List ByteArray) nmOk nmR (nmH nn n f (p + (2 : Nat))) fun (x : List ByteArray) => Or.call [(100000 : Nat)] (AI (pickV n f (p + (2 : Nat)) (IntKind.i64.wrap (M + (1 : Int))))) [((0 : Nat), RD nn n f (p + (2 : Nat) + (1 : Nat)))] (Or.call [(100000 : Nat)] (AV.own (1 : Nat)) [((0 : Nat), RD nn n f (p + (2 : Nat) + (1 : Nat) + (4 : Nat) * ((pickV n f (p + (2 : Nat)) (IntKind.i64.wrap (M + (1 : Int)))).toNat * (↑((0 : Nat) + x.length) : Int).toNat))), ((1 : Nat), Ob.row Mode.u false (1 : Nat) (pickV n f (p + (2 : Nat)) (IntKind.i64.wrap (M + (1 : Int)))).toNat (RR (fun (x_1 : Nat) => (↑((0 : Nat) + x.length) : Int).toNat) fun (i j : Nat) => cellV n f (p + (2 : Nat) + (1 : Nat) + (4 : Nat) * (i * (↑((0 : Nat) + x.length) : Int).toNat) + (4 : Nat) * j)) [])] Or.nil)) [Item.ir ir19] (start [AV.adr (0 : Nat) (0 : Nat), AI k, AI M, AI m] [((0 : Nat), RD nn n f p)]) = VC.callE (List ByteArray) (49 : Nat) [AV.adr (0 : Nat) (0 : Nat), AV.p true (PV.v (Value.int IntKind.i64 k))] [((0 : Nat), Ob.box [AV.p false (PV.sl nn (1 : Nat) n (PB f)), AV.p true (PV.v (Value.int IntKind.i64 (↑p : Int)))])] nmOk nmR (nmH nn n f (p + (2 : Nat))) fun (x : List ByteArray) => VC.need ((((0 : Nat) + x.length) * (16 : Nat) ≤ (140737488355328 : Nat) ∧ (↑((0 : Nat) + x.length) : Int) ≤ (9223372036854775807 : Int)) ∧ allV (1 : Nat) x.length (TR (litS x))) (VC.call (20 : Nat) [AV.adr (0 : Nat) (0 : Nat), AV.p true (PV.v (Value.int IntKind.i64 (IntKind.i64.wrap (M + (1 : Int)))))] [((0 : Nat), Ob.box [AV.p false (PV.sl nn (1 : Nat) n (PB f)), AV.p true (PV.v (Value.int IntKind.i64 (↑(p + (2 : Nat)) : Int)))])] (AI (pickV n f (p + (2 : Nat)) (IntKind.i64.wrap (M + (1 : Int))))) [((0 : Nat), RD nn n f (p + (2 : Nat) + (1 : Nat)))] (VC.call (50 : Nat) [AV.adr (0 : Nat) (0 : Nat), AV.p true (PV.v (Value.int IntKind.i64 (↑((0 : Nat) + x.length) : Int))), AV.p true (PV.v (Value.int IntKind.i64 (pickV n f (p + (2 : Nat)) (IntKind.i64.wrap (M + (1 : Int))))))] [((0 : Nat), Ob.box [AV.p false (PV.sl nn (1 : Nat) n (PB f)), AV.p true (PV.v (Value.int IntKind.i64 (↑(p + (2 : Nat) + (1 : Nat)) : Int)))])] (AV.own (1 : Nat)) [((0 : Nat), RD nn n f (p + (2 : Nat) + (1 : Nat) + (4 : Nat) * ((pickV n f (p + (2 : Nat)) (IntKind.i64.wrap (M + (1 : Int)))).toNat * (↑((0 : Nat) + x.length) : Int).toNat))), ((1 : Nat), Ob.row Mode.u false (1 : Nat) (pickV n f (p + (2 : Nat)) (IntKind.i64.wrap (M + (1 : Int)))).toNat (RR (fun (x_1 : Nat) => (↑((0 : Nat) + x.length) : Int).toNat) fun (i j : Nat) => cellV n f (p + (2 : Nat) + (1 : Nat) + (4 : Nat) * (i * (↑((0 : Nat) + x.length) : Int).toNat) + (4 : Nat) * j)) [])] (VC.loop ir19_L1 [Item.bend (0 : Nat), Item.ir ir19_T2] (St.mk [((0 : Nat), AV.adr (100000 : Nat) (0 : Nat)), ((1 : Nat), AV.p true (PV.v (Value.int IntKind.i64 k))), ((2 : Nat), AV.p true (PV.v (Value.int IntKind.i64 M))), ((3 : Nat), AV.p true (PV.v (Value.int IntKind.i64 m))), ((8 : Nat), AV.adr (8 : Nat) (0 : Nat)), ((9 : Nat), AV.adr (9 : Nat) (0 : Nat)), ((10 : Nat), AV.p true (PV.v (Value.int IntKind.i64 (0 : Int))))] [((100000 : Nat), Ob.box [AV.p false (PV.sl nn (1 : Nat) n (PB f)), AV.p true (PV.v (Value.int IntKind.i64 (↑(p + (2 : Nat) + (1 : Nat) + (4 : Nat) * ((pickV n f (p + (2 : Nat)) (IntKind.i64.wrap (M + (1 : Int)))).toNat * (↑((0 : Nat) + x.length) : Int).toNat)) : Int)))]), ((8 : Nat), Ob.box [AV.p true (PV.v (Value.slice none (0 : Nat) (0 : Nat))), AV.p true (PV.v (Value.slice none (0 : Nat) (0 : Nat))), AV.p true (PV.v (Value.slice none (0 : Nat) (0 : Nat)))]), ((16 : Nat), Ob.row Mode.u true (1 : Nat) ((0 : Nat) + x.length) (fun (a b : Nat) => if a < (0 : Nat) then setG [] (fun (x_1 j : Nat) => PV.v ([Value.string (ByteArray.mk #[])].getD j undef)) a b else TR (litS x) (a - (0 : Nat)) b) []), ((9 : Nat), Ob.box [AV.own (16 : Nat), AV.own (1026 : Nat), AV.p true (PV.v (Value.slice none (0 : Nat) (0 : Nat)))]), ((1026 : Nat), Ob.row Mode.u false (1 : Nat) (pickV n f (p + (2 : Nat)) (IntKind.i64.wrap (M + (1 : Int)))).toNat (RR (fun (x_1 : Nat) => (↑((0 : Nat) + x.length) : Int).toNat) fun (i j : Nat) => cellV n f (p + (2 : Nat) + (1 : Nat) + (4 : Nat) * (i * (↑((0 : Nat) + x.length) : Int).toNat) + (4 : Nat) * j)) [])])))) := by intros; kernel_rfl
abbrev XP := Nat × (Nat → Nat → Int) × (Nat → Bool)
def st_dPad (nn : Bool) (n : Nat) (f : Nat → Int) (p : Nat) (m : Int) (N : Nat) (F : Nat → ByteArray) (M : Nat) (x : XP) : St := ⟨[(0, .adr 100000 0), (3, AI m), (8, .adr 8 0), (9, .adr 9 0), (10, AI x.1)], [(100000, RD nn n f (p + x.1)), (8, .box [.p true (.v (.slice none 0 0)), .p true (.v (.slice none 0 0)), .p true (.v (.slice none 0 0))]), (16, .row .u true 1 N (TR F) []), (1026, .row .u false 1 M (RR (fun _ => N) x.2.1) []), (77777, .row .u false 1 x.1 (MK x.2.2) []), (9, .box [.own 16, .own 1026, .own 77777])]⟩
theorem evr_dPad : ∀ (nn : Bool) (n : Nat) (f : Nat → Int) (p0 p : Nat) (m : Int) (N : Nat) (F : Nat → ByteArray) (M : Nat) (I : XP → St → Prop) (x : XP), ev G0 res19 [((0 : Nat), RD nn n f p0)] (3000 : Nat) ((Or.call [(100000 : Nat)] (AI (pickV n f (p + x.1) (3 : Int))) [((0 : Nat), RD nn n f (p + x.1 + (1 : Nat)))] (Or.stop (7 : Nat))).split (Or.stop (1 : Nat))) [Item.ir ir19_L1, Item.lend (I x), Item.bend (0 : Nat), Item.ir ir19_T2] (st_dPad nn n f p m N F M x) = VC.split (decide ((↑x.1 : Int) < (↑M : Int))) (VC.call (20 : Nat) [AV.adr (0 : Nat) (0 : Nat), AV.p true (PV.v (Value.int IntKind.i64 (3 : Int)))] [((0 : Nat), Ob.box [AV.p false (PV.sl nn (1 : Nat) n (PB f)), AV.p true (PV.v (Value.int IntKind.i64 (↑(p + x.1) : Int)))])] (AI (pickV n f (p + x.1) (3 : Int))) [((0 : Nat), RD nn n f (p + x.1 + (1 : Nat)))] (VC.need (((x.1 + (1 : Nat)) * (1 : Nat) ≤ (140737488355328 : Nat) ∧ (↑(x.1 + (1 : Nat)) : Int) ≤ (9223372036854775807 : Int)) ∧ allV (1 : Nat) (1 : Nat) (setG [((0 : Nat), (0 : Nat), PV.v (Value.bool (decide ((0 : Int) < pickV n f (p + x.1) (3 : Int)))))] fun (x_1 j : Nat) => PV.v ([Value.bool false].getD j undef))) (VC.stop [Item.ir ir19_C1, Item.bend (1 : Nat), Item.ir ir19_E1, Item.lend (I x), Item.bend (0 : Nat), Item.ir ir19_T2] (St.mk [((0 : Nat), AV.adr (100000 : Nat) (0 : Nat)), ((3 : Nat), AV.p true (PV.v (Value.int IntKind.i64 m))), ((8 : Nat), AV.adr (8 : Nat) (0 : Nat)), ((9 : Nat), AV.adr (9 : Nat) (0 : Nat)), ((10 : Nat), AV.p true (PV.v (Value.int IntKind.i64 (↑x.1 : Int)))), ((32 : Nat), AV.p true (PV.v (Value.bool (decide ((↑x.1 : Int) < (↑M : Int))))))] [((100000 : Nat), Ob.box [AV.p false (PV.sl nn (1 : Nat) n (PB f)), AV.p true (PV.v (Value.int IntKind.i64 (↑(p + x.1 + (1 : Nat)) : Int)))]), ((8 : Nat), Ob.box [AV.p true (PV.v (Value.slice none (0 : Nat) (0 : Nat))), AV.p true (PV.v (Value.slice none (0 : Nat) (0 : Nat))), AV.p true (PV.v (Value.slice none (0 : Nat) (0 : Nat)))]), ((16 : Nat), Ob.row Mode.u true (1 : Nat) N (TR F) []), ((1026 : Nat), Ob.row Mode.u false (1 : Nat) M (RR (fun (x_1 : Nat) => N) x.2.1) []), ((9 : Nat), Ob.box [AV.own (16 : Nat), AV.own (1026 : Nat), AV.own (41 : Nat)]), ((41 : Nat), Ob.row Mode.u false (1 : Nat) (x.1 + (1 : Nat)) (fun (a b : Nat) => if a < x.1 then MK x.2.2 a b else setG [((0 : Nat), (0 : Nat), PV.v (Value.bool (decide ((0 : Int) < pickV n f (p + x.1) (3 : Int)))))] (fun (x_1 j : Nat) => PV.v ([Value.bool false].getD j undef)) (a - x.1) b) [])])))) (VC.stop [Item.ir ir19_T2] (St.mk [((0 : Nat), AV.adr (100000 : Nat) (0 : Nat)), ((3 : Nat), AV.p true (PV.v (Value.int IntKind.i64 m))), ((8 : Nat), AV.adr (8 : Nat) (0 : Nat)), ((9 : Nat), AV.adr (9 : Nat) (0 : Nat)), ((10 : Nat), AV.p true (PV.v (Value.int IntKind.i64 (↑x.1 : Int)))), ((32 : Nat), AV.p true (PV.v (Value.bool (decide ((↑x.1 : Int) < (↑M : Int))))))] [((100000 : Nat), Ob.box [AV.p false (PV.sl nn (1 : Nat) n (PB f)), AV.p true (PV.v (Value.int IntKind.i64 (↑(p + x.1) : Int)))]), ((8 : Nat), Ob.box [AV.p true (PV.v (Value.slice none (0 : Nat) (0 : Nat))), AV.p true (PV.v (Value.slice none (0 : Nat) (0 : Nat))), AV.p true (PV.v (Value.slice none (0 : Nat) (0 : Nat)))]), ((16 : Nat), Ob.row Mode.u true (1 : Nat) N (TR F) []), ((1026 : Nat), Ob.row Mode.u false (1 : Nat) M (RR (fun (x_1 : Nat) => N) x.2.1) []), ((77777 : Nat), Ob.row Mode.u false (1 : Nat) x.1 (MK x.2.2) []), ((9 : Nat), Ob.box [AV.own (16 : Nat), AV.own (1026 : Nat), AV.own (77777 : Nat)])])) := by intros; kernel_rfl
/-- After a mark is appended. -/
def st_dPadC (nn : Bool) (n : Nat) (f : Nat → Int) (p : Nat) (m : Int) (N : Nat) (F : Nat → ByteArray) (M : Nat) (k : Nat) (h : Nat → Nat → Int) (r : Nat → Bool) : St := ⟨[(0, .adr 100000 0), (3, AI m), (8, .adr 8 0), (9, .adr 9 0), (10, AI k)], [(100000, RD nn n f (p + k + 1)), (8, .box [.p true (.v (.slice none 0 0)), .p true (.v (.slice none 0 0)), .p true (.v (.slice none 0 0))]), (16, .row .u true 1 N (TR F) []), (1026, .row .u false 1 M (RR (fun _ => N) h) []), (77777, .row .u false 1 (k + 1) (MK r) []), (9, .box [.own 16, .own 1026, .own 77777])]⟩
theorem evr_dPadC : ∀ (nn : Bool) (n : Nat) (f : Nat → Int) (p0 p : Nat) (m : Int) (N : Nat) (F : Nat → ByteArray) (M k : Nat) (h : Nat → Nat → Int) (r : Nat → Bool) (I : XP → St → Prop) (x : XP), ev G0 res19 [((0 : Nat), RD nn n f p0)] (3000 : Nat) (Or.nil.split Or.nil) [Item.ir ir19_C1, Item.bend (1 : Nat), Item.ir ir19_E1, Item.lend (I x), Item.bend (0 : Nat), Item.ir ir19_T2] (st_dPadC nn n f p m N F M k h r) = VC.need ((0 : Int) ≤ (↑k : Int) ∧ (↑k : Int).toNat < k + (1 : Nat)) (VC.need ((↑k : Int).toNat < k + (1 : Nat)) (VC.split (!r (↑k : Int).toNat) (VC.need ((0 : Int) ≤ (↑N : Int) ∧ (↑N : Int) ≤ (↑N : Int) ∧ (↑(8 : Nat) : Int) * (↑N : Int) ≤ (281474976710656 : Int) ∧ (↑N : Int) ≤ (9223372036854775807 : Int)) (VC.need ((0 : Int) ≤ (↑k : Int) ∧ (↑k : Int).toNat < M) (VC.need ((↑k : Int).toNat < M) (VC.lend (I x) (St.mk [((0 : Nat), AV.adr (100000 : Nat) (0 : Nat)), ((3 : Nat), AV.p true (PV.v (Value.int IntKind.i64 m))), ((8 : Nat), AV.adr (8 : Nat) (0 : Nat)), ((9 : Nat), AV.adr (9 : Nat) (0 : Nat)), ((10 : Nat), AV.p true (PV.v (Value.int IntKind.i64 (IntKind.i64.wrap ((↑k : Int) + (1 : Int)))))), ((48 : Nat), AV.p true (PV.v (Value.bool !r (↑k : Int).toNat)))] [((100000 : Nat), Ob.box [AV.p false (PV.sl nn (1 : Nat) n (PB f)), AV.p true (PV.v (Value.int IntKind.i64 (↑(p + k + (1 : Nat)) : Int)))]), ((8 : Nat), Ob.box [AV.p true (PV.v (Value.slice none (0 : Nat) (0 : Nat))), AV.p true (PV.v (Value.slice none (0 : Nat) (0 : Nat))), AV.p true (PV.v (Value.slice none (0 : Nat) (0 : Nat)))]), ((16 : Nat), Ob.row Mode.u true (1 : Nat) N (TR F) []), ((1026 : Nat), Ob.row Mode.u false (1 : Nat) M (setG [((↑k : Int).toNat, (0 : Nat), PV.sl true (1 : Nat) (↑N : Int).toNat fun (x_1 j : Nat) => PV.v ([Value.int IntKind.i64 (0 : Int)].getD j undef))] (RR (fun (x_1 : Nat) => N) h)) []), ((77777 : Nat), Ob.row Mode.u false (1 : Nat) (k + (1 : Nat)) (MK r) []), ((9 : Nat), Ob.box [AV.own (16 : Nat), AV.own (1026 : Nat), AV.own (77777 : Nat)])]))))) (VC.lend (I x) (St.mk [((0 : Nat), AV.adr (100000 : Nat) (0 : Nat)), ((3 : Nat), AV.p true (PV.v (Value.int IntKind.i64 m))), ((8 : Nat), AV.adr (8 : Nat) (0 : Nat)), ((9 : Nat), AV.adr (9 : Nat) (0 : Nat)), ((10 : Nat), AV.p true (PV.v (Value.int IntKind.i64 (IntKind.i64.wrap ((↑k : Int) + (1 : Int)))))), ((48 : Nat), AV.p true (PV.v (Value.bool !r (↑k : Int).toNat)))] [((100000 : Nat), Ob.box [AV.p false (PV.sl nn (1 : Nat) n (PB f)), AV.p true (PV.v (Value.int IntKind.i64 (↑(p + k + (1 : Nat)) : Int)))]), ((8 : Nat), Ob.box [AV.p true (PV.v (Value.slice none (0 : Nat) (0 : Nat))), AV.p true (PV.v (Value.slice none (0 : Nat) (0 : Nat))), AV.p true (PV.v (Value.slice none (0 : Nat) (0 : Nat)))]), ((16 : Nat), Ob.row Mode.u true (1 : Nat) N (TR F) []), ((1026 : Nat), Ob.row Mode.u false (1 : Nat) M (RR (fun (x_1 : Nat) => N) h) []), ((77777 : Nat), Ob.row Mode.u false (1 : Nat) (k + (1 : Nat)) (MK r) []), ((9 : Nat), Ob.box [AV.own (16 : Nat), AV.own (1026 : Nat), AV.own (77777 : Nat)])])))) := by intros; kernel_rfl
def st_dPadT (nn : Bool) (n : Nat) (f : Nat → Int) (p : Nat) (m : Int) (N : Nat) (F : Nat → ByteArray) (M : Nat) (h : Nat → Nat → Int) (K : Nat) (r : Nat → Bool) : St := ⟨[(0, .adr 100000 0), (3, AI m), (8, .adr 8 0), (9, .adr 9 0)], [(100000, RD nn n f p), (8, .box [.p true (.v (.slice none 0 0)), .p true (.v (.slice none 0 0)), .p true (.v (.slice none 0 0))]), (16, .row .u true 1 N (TR F) []), (1026, .row .u false 1 M (RR (fun _ => N) h) []), (77777, .row .u false 1 K (MK r) []), (9, .box [.own 16, .own 1026, .own 77777])]⟩
theorem evr_dPadT : ∀ (nn : Bool) (n : Nat) (f : Nat → Int) (p0 p : Nat) (m : Int) (N : Nat) (F : Nat → ByteArray) (M : Nat) (h : Nat → Nat → Int) (K : Nat) (r : Nat → Bool), ev G0 res19 [((0 : Nat), RD nn n f p0)] (3000 : Nat) (Or.callE [(100000 : Nat)] (Bool × Nat) (fun (y : Bool × Nat) => p ≤ y.snd ∧ y.snd ≤ p + (1 : Nat)) (fun (y : Bool × Nat) => AB y.fst) (fun (y : Bool × Nat) => [((0 : Nat), RD nn n f y.snd)]) fun (y : Bool × Nat) => (Or.call [(100000 : Nat)] (AI (pickV n f y.2 (4 : Int))) [((0 : Nat), RD nn n f (y.2 + (1 : Nat)))] (Or.nil.split (Or.nil.split (Or.nil.split Or.nil)))).split Or.nil) [Item.ir ir19_T2] (st_dPadT nn n f p m N F M h K r) = VC.callE (Bool × Nat) (51 : Nat) [AV.adr (0 : Nat) (0 : Nat), AV.p true (PV.v (Value.int IntKind.i64 m))] [((0 : Nat), Ob.box [AV.p false (PV.sl nn (1 : Nat) n (PB f)), AV.p true (PV.v (Value.int IntKind.i64 (↑p : Int)))])] (fun (y : Bool × Nat) => p ≤ y.snd ∧ y.snd ≤ p + (1 : Nat)) (fun (y : Bool × Nat) => AB y.fst) (fun (y : Bool × Nat) => [((0 : Nat), RD nn n f y.snd)]) fun (y : Bool × Nat) => VC.split y.1 (VC.call (20 : Nat) [AV.adr (0 : Nat) (0 : Nat), AV.p true (PV.v (Value.int IntKind.i64 (4 : Int)))] [((0 : Nat), Ob.box [AV.p false (PV.sl nn (1 : Nat) n (PB f)), AV.p true (PV.v (Value.int IntKind.i64 (↑y.2 : Int)))])] (AI (pickV n f y.2 (4 : Int))) [((0 : Nat), RD nn n f (y.2 + (1 : Nat)))] (VC.split (pickV n f y.2 (4 : Int) == (0 : Int)) (VC.need (((K + (1 : Nat)) * (1 : Nat) ≤ (140737488355328 : Nat) ∧ (↑(K + (1 : Nat)) : Int) ≤ (9223372036854775807 : Int)) ∧ allV (1 : Nat) (1 : Nat) (setG [((0 : Nat), (0 : Nat), PV.v (Value.bool true))] fun (x j : Nat) => PV.v ([Value.bool false].getD j undef))) (VC.done (St.mk [((0 : Nat), AV.adr (100000 : Nat) (0 : Nat)), ((3 : Nat), AV.p true (PV.v (Value.int IntKind.i64 m))), ((8 : Nat), AV.adr (8 : Nat) (0 : Nat)), ((9 : Nat), AV.adr (9 : Nat) (0 : Nat)), ((59 : Nat), AV.p true (PV.v (Value.bool y.1))), ((61 : Nat), AV.p true (PV.v (Value.int IntKind.i64 (pickV n f y.2 (4 : Int))))), ((73 : Nat), AV.p true (PV.v (Value.bool (pickV n f y.2 (4 : Int) == (0 : Int)))))] [((100000 : Nat), Ob.box [AV.p false (PV.sl nn (1 : Nat) n (PB f)), AV.p true (PV.v (Value.int IntKind.i64 (↑(y.2 + (1 : Nat)) : Int)))]), ((8 : Nat), Ob.box [AV.own (16 : Nat), AV.own (1026 : Nat), AV.own (78 : Nat)]), ((16 : Nat), Ob.row Mode.u true (1 : Nat) N (TR F) []), ((1026 : Nat), Ob.row Mode.u false (1 : Nat) M (RR (fun (x : Nat) => N) h) []), ((9 : Nat), Ob.box [AV.own (16 : Nat), AV.own (1026 : Nat), AV.own (78 : Nat)]), ((78 : Nat), Ob.row Mode.u false (1 : Nat) (K + (1 : Nat)) (fun (a b : Nat) => if a < K then MK r a b else setG [((0 : Nat), (0 : Nat), PV.v (Value.bool true))] (fun (x j : Nat) => PV.v ([Value.bool false].getD j undef)) (a - K) b) [])]))) (VC.split (pickV n f y.2 (4 : Int) == (1 : Int)) (VC.need ((0 : Int) ≤ (0 : Int) ∧ Int.toNat (0 : Int) < N) (VC.need ((0 : Nat) < N) (VC.need (((N + (1 : Nat)) * (16 : Nat) ≤ (140737488355328 : Nat) ∧ (↑(N + (1 : Nat)) : Int) ≤ (9223372036854775807 : Int)) ∧ allV (1 : Nat) (1 : Nat) (setG [((0 : Nat), (0 : Nat), PV.v (Value.string (F (0 : Nat))))] fun (x j : Nat) => PV.v ([Value.string (ByteArray.mk #[])].getD j undef))) (VC.done (St.mk [((0 : Nat), AV.adr (100000 : Nat) (0 : Nat)), ((3 : Nat), AV.p true (PV.v (Value.int IntKind.i64 m))), ((8 : Nat), AV.adr (8 : Nat) (0 : Nat)), ((9 : Nat), AV.adr (9 : Nat) (0 : Nat)), ((59 : Nat), AV.p true (PV.v (Value.bool y.1))), ((61 : Nat), AV.p true (PV.v (Value.int IntKind.i64 (pickV n f y.2 (4 : Int))))), ((73 : Nat), AV.p true (PV.v (Value.bool (pickV n f y.2 (4 : Int) == (0 : Int))))), ((80 : Nat), AV.p true (PV.v (Value.bool (pickV n f y.2 (4 : Int) == (1 : Int)))))] [((100000 : Nat), Ob.box [AV.p false (PV.sl nn (1 : Nat) n (PB f)), AV.p true (PV.v (Value.int IntKind.i64 (↑(y.2 + (1 : Nat)) : Int)))]), ((8 : Nat), Ob.box [AV.own (89 : Nat), AV.own (1026 : Nat), AV.own (77777 : Nat)]), ((1026 : Nat), Ob.row Mode.u false (1 : Nat) M (RR (fun (x : Nat) => N) h) []), ((77777 : Nat), Ob.row Mode.u false (1 : Nat) K (MK r) []), ((9 : Nat), Ob.box [AV.own (89 : Nat), AV.own (1026 : Nat), AV.own (77777 : Nat)]), ((89 : Nat), Ob.row Mode.u true (1 : Nat) (N + (1 : Nat)) (fun (a b : Nat) => if a < N then TR F a b else setG [((0 : Nat), (0 : Nat), PV.v (Value.string (F (0 : Nat))))] (fun (x j : Nat) => PV.v ([Value.string (ByteArray.mk #[])].getD j undef)) (a - N) b) [])]))))) (VC.split (pickV n f y.2 (4 : Int) == (2 : Int)) (VC.need ((0 : Int) ≤ (↑N : Int) ∧ (↑N : Int) ≤ (↑N : Int) ∧ (↑(8 : Nat) : Int) * (↑N : Int) ≤ (281474976710656 : Int) ∧ (↑N : Int) ≤ (9223372036854775807 : Int)) (VC.need ((0 : Int) ≤ (0 : Int) ∧ Int.toNat (0 : Int) < (↑N : Int).toNat) (VC.need ((0 : Nat) < (↑N : Int).toNat) (VC.need (((M + (1 : Nat)) * (24 : Nat) ≤ (140737488355328 : Nat) ∧ (↑(M + (1 : Nat)) : Int) ≤ (9223372036854775807 : Int)) ∧ allOne (1 : Nat) (1 : Nat) (setG [((0 : Nat), (0 : Nat), PV.sl true (1 : Nat) (↑N : Int).toNat (setG [((0 : Nat), (0 : Nat), PV.v (Value.int IntKind.i64 (1 : Int)))] fun (x j : Nat) => PV.v ([Value.int IntKind.i64 (0 : Int)].getD j undef)))] fun (x j : Nat) => PV.v ([Value.slice none (0 : Nat) (0 : Nat)].getD j undef))) (VC.need (((K + (1 : Nat)) * (1 : Nat) ≤ (140737488355328 : Nat) ∧ (↑(K + (1 : Nat)) : Int) ≤ (9223372036854775807 : Int)) ∧ allV (1 : Nat) (1 : Nat) (setG [((0 : Nat), (0 : Nat), PV.v (Value.bool false))] fun (x j : Nat) => PV.v ([Value.bool false].getD j undef))) (VC.done (St.mk [((0 : Nat), AV.adr (100000 : Nat) (0 : Nat)), ((3 : Nat), AV.p true (PV.v (Value.int IntKind.i64 m))), ((8 : Nat), AV.adr (8 : Nat) (0 : Nat)), ((9 : Nat), AV.adr (9 : Nat) (0 : Nat)), ((59 : Nat), AV.p true (PV.v (Value.bool y.1))), ((61 : Nat), AV.p true (PV.v (Value.int IntKind.i64 (pickV n f y.2 (4 : Int))))), ((73 : Nat), AV.p true (PV.v (Value.bool (pickV n f y.2 (4 : Int) == (0 : Int))))), ((80 : Nat), AV.p true (PV.v (Value.bool (pickV n f y.2 (4 : Int) == (1 : Int))))), ((91 : Nat), AV.p true (PV.v (Value.bool (pickV n f y.2 (4 : Int) == (2 : Int))))), ((11 : Nat), AV.own (96 : Nat))] [((100000 : Nat), Ob.box [AV.p false (PV.sl nn (1 : Nat) n (PB f)), AV.p true (PV.v (Value.int IntKind.i64 (↑(y.2 + (1 : Nat)) : Int)))]), ((8 : Nat), Ob.box [AV.own (16 : Nat), AV.own (103 : Nat), AV.own (108 : Nat)]), ((16 : Nat), Ob.row Mode.u true (1 : Nat) N (TR F) []), ((9 : Nat), Ob.box [AV.own (16 : Nat), AV.own (103 : Nat), AV.own (108 : Nat)]), ((103 : Nat), Ob.row Mode.u false (1 : Nat) (M + (1 : Nat)) (fun (a b : Nat) => if a < M then RR (fun (x : Nat) => N) h a b else setG [((0 : Nat), (0 : Nat), PV.sl true (1 : Nat) (↑N : Int).toNat (setG [((0 : Nat), (0 : Nat), PV.v (Value.int IntKind.i64 (1 : Int)))] fun (x j : Nat) => PV.v ([Value.int IntKind.i64 (0 : Int)].getD j undef)))] (fun (x j : Nat) => PV.v ([Value.slice none (0 : Nat) (0 : Nat)].getD j undef)) (a - M) b) []), ((108 : Nat), Ob.row Mode.u false (1 : Nat) (K + (1 : Nat)) (fun (a b : Nat) => if a < K then MK r a b else setG [((0 : Nat), (0 : Nat), PV.v (Value.bool false))] (fun (x j : Nat) => PV.v ([Value.bool false].getD j undef)) (a - K) b) [])]))))))) (VC.need (((M + (1 : Nat)) * (24 : Nat) ≤ (140737488355328 : Nat) ∧ (↑(M + (1 : Nat)) : Int) ≤ (9223372036854775807 : Int)) ∧ allOne (1 : Nat) (1 : Nat) (setG [((0 : Nat), (0 : Nat), PV.sl true (1 : Nat) (0 : Nat) (setG [] fun (x j : Nat) => PV.v ([Value.int IntKind.i64 (0 : Int)].getD j undef)))] fun (x j : Nat) => PV.v ([Value.slice none (0 : Nat) (0 : Nat)].getD j undef))) (VC.need (((K + (1 : Nat)) * (1 : Nat) ≤ (140737488355328 : Nat) ∧ (↑(K + (1 : Nat)) : Int) ≤ (9223372036854775807 : Int)) ∧ allV (1 : Nat) (1 : Nat) (setG [((0 : Nat), (0 : Nat), PV.v (Value.bool true))] fun (x j : Nat) => PV.v ([Value.bool false].getD j undef))) (VC.done (St.mk [((0 : Nat), AV.adr (100000 : Nat) (0 : Nat)), ((3 : Nat), AV.p true (PV.v (Value.int IntKind.i64 m))), ((8 : Nat), AV.adr (8 : Nat) (0 : Nat)), ((9 : Nat), AV.adr (9 : Nat) (0 : Nat)), ((59 : Nat), AV.p true (PV.v (Value.bool y.1))), ((61 : Nat), AV.p true (PV.v (Value.int IntKind.i64 (pickV n f y.2 (4 : Int))))), ((73 : Nat), AV.p true (PV.v (Value.bool (pickV n f y.2 (4 : Int) == (0 : Int))))), ((80 : Nat), AV.p true (PV.v (Value.bool (pickV n f y.2 (4 : Int) == (1 : Int))))), ((91 : Nat), AV.p true (PV.v (Value.bool (pickV n f y.2 (4 : Int) == (2 : Int)))))] [((100000 : Nat), Ob.box [AV.p false (PV.sl nn (1 : Nat) n (PB f)), AV.p true (PV.v (Value.int IntKind.i64 (↑(y.2 + (1 : Nat)) : Int)))]), ((8 : Nat), Ob.box [AV.own (16 : Nat), AV.own (66 : Nat), AV.own (71 : Nat)]), ((16 : Nat), Ob.row Mode.u true (1 : Nat) N (TR F) []), ((9 : Nat), Ob.box [AV.own (16 : Nat), AV.own (66 : Nat), AV.own (71 : Nat)]), ((66 : Nat), Ob.row Mode.u false (1 : Nat) (M + (1 : Nat)) (fun (a b : Nat) => if a < M then RR (fun (x : Nat) => N) h a b else setG [((0 : Nat), (0 : Nat), PV.sl true (1 : Nat) (0 : Nat) (setG [] fun (x j : Nat) => PV.v ([Value.int IntKind.i64 (0 : Int)].getD j undef)))] (fun (x j : Nat) => PV.v ([Value.slice none (0 : Nat) (0 : Nat)].getD j undef)) (a - M) b) []), ((71 : Nat), Ob.row Mode.u false (1 : Nat) (K + (1 : Nat)) (fun (a b : Nat) => if a < K then MK r a b else setG [((0 : Nat), (0 : Nat), PV.v (Value.bool true))] (fun (x j : Nat) => PV.v ([Value.bool false].getD j undef)) (a - K) b) [])])))))))) (VC.done (St.mk [((0 : Nat), AV.adr (100000 : Nat) (0 : Nat)), ((3 : Nat), AV.p true (PV.v (Value.int IntKind.i64 m))), ((8 : Nat), AV.adr (8 : Nat) (0 : Nat)), ((9 : Nat), AV.adr (9 : Nat) (0 : Nat)), ((59 : Nat), AV.p true (PV.v (Value.bool y.1)))] [((100000 : Nat), Ob.box [AV.p false (PV.sl nn (1 : Nat) n (PB f)), AV.p true (PV.v (Value.int IntKind.i64 (↑y.2 : Int)))]), ((8 : Nat), Ob.box [AV.own (16 : Nat), AV.own (1026 : Nat), AV.own (77777 : Nat)]), ((16 : Nat), Ob.row Mode.u true (1 : Nat) N (TR F) []), ((1026 : Nat), Ob.row Mode.u false (1 : Nat) M (RR (fun (x : Nat) => N) h) []), ((77777 : Nat), Ob.row Mode.u false (1 : Nat) K (MK r) []), ((9 : Nat), Ob.box [AV.own (16 : Nat), AV.own (1026 : Nat), AV.own (77777 : Nat)])])) := by intros; kernel_rfl
/-- A drawn padded table, and where the reader stands. -/
structure DP where
  n : Nat
  f : Nat → ByteArray
  m : Nat
  w : Nat → Nat
  h : Nat → Nat → Int
  k : Nat
  r : Nat → Bool
  p : Nat
structure DpOk (p M : Nat) (d : DP) : Prop where
  hn : d.n ≤ 4
  hf : ∀ i, i < d.n → (d.f i).size ≤ 5
  hm : d.m ≤ M + 1
  hk : d.k ≤ M + 1
  hw : ∀ i, i < d.m → d.w i ≤ 3
  hp : p ≤ d.p ∧ d.p ≤ p + 400
  hv : padB d.n d.f d.m d.w d.h d.k d.r = true → d.m ≤ M
abbrev dpR (_ : DP) : AV := .ag [.own 1, .own 2, .own 3]
abbrev dpH (nn : Bool) (n : Nat) (f : Nat → Int) (d : DP) : List (Nat × Ob) := [(0, RD nn n f d.p), (1, .row .u false 1 d.n (TR d.f) []), (2, .row .u false 1 d.m (RR d.w d.h) []), (3, .row .u false 1 d.k (MK d.r) [])]
abbrev DpPost (nn : Bool) (n : Nat) (f : Nat → Int) (p M : Nat) : AV → List (Nat × Ob) → Prop := fun x h => ∃ y : DP, DpOk p M y ∧ x = dpR y ∧ h = dpH nn n f y
theorem pad_no {n : Nat} {f : Nat → ByteArray} {m : Nat} {w : Nat → Nat} {h : Nat → Nat → Int} {k : Nat} {r : Nat → Bool} {i : Nat} (hi : i < m) (hb : rowB n w h i = false ∨ zB w h r i = false) : padB n f m w h k r = false := by
  rcases hb with hb | hb
  · simp only [padB, rowsB, allB_no (p := rowB n w h) hi hb, Bool.and_false, Bool.false_and]
  · simp only [padB, allB_no hi hb, Bool.and_false]
theorem dPad_T (nn : Bool) (n : Nat) (f : Nat → Int) (p0 p : Nat) (m : Int) (N : Nat) (F : Nat → ByteArray) (M Mx : Nat) (h : Nat → Nat → Int) (r : Nat → Bool) (hb : Bytes f) (hp : p0 ≤ p ∧ p ≤ p0 + 380) (hp0 : p0 ≤ 10000) (hN : 1 ≤ N ∧ N ≤ 3) (hF : ∀ i, (F i).size ≤ 5) (hM : M ≤ Mx) (hMx : Mx ≤ 20) : Go.Gw.M Tryd.prog G0 (Post res19 [(0, RD nn n f p0)] (DpPost nn n f p0 Mx)) [Item.ir ir19_T2] (st_dPadT nn n f p m N F M h M r) := by
  refine Go.Gw.M.by [] [] [] ?_ (evr_dPadT nn n f p0 p m N F M h M r) ?_
  · simp [st_dPadT, hbs, St.lowers, St.lower, stLe, leEnv, leObs, obLe, injB, pinC, AV.leC, AV.leCs, PV.leC, PV.Le_v, St.get, St.obj, look, rho, isNew, keptC, renH, Mode.ok, Mode.isZ, PV.isVal, PV.isNilSl, List.all_nil, List.all_cons, List.any_nil, List.any_cons, List.map_nil, List.map_cons, PV.Le_self]
  · simp only [VC.holds_split, VC.holds_need, VC.holds_doneP, VC.holds_done, VC.holds_either, VC.holds_call, VC.holds_callE, VC.holds_lend, VC.holds_stop, VC.holds_fail, decide_eq_true_eq, decide_eq_false_iff_not, Int.toNat_natCast]
    refine ⟨c_oddS _ _ _ _ _ hb (by omega), fun ⟨yb, yq⟩ hy => ?_⟩
    simp only [] at hy ⊢
    refine ⟨fun h1 => ⟨c_pick _ _ _ _ _ hb (by omega), fun h2 => ⟨⟨⟨by omega, by omega⟩, allV1 rfl⟩, ?_⟩, fun h2 => ⟨fun h3 => ⟨⟨by omega, by omega⟩, by omega, ⟨⟨by omega, by omega⟩, allV1 rfl⟩, ?_⟩, fun h3 => ⟨fun h4 => ⟨⟨by omega, by omega, by simp; omega, by omega⟩, ⟨by omega, by omega⟩, by omega, ⟨⟨by omega, by omega⟩, allOne1 rfl⟩, ⟨⟨by omega, by omega⟩, allV1 rfl⟩, ?_⟩, fun h4 => ⟨⟨⟨by omega, by omega⟩, allOne1 rfl⟩, ⟨⟨by omega, by omega⟩, allV1 rfl⟩, ?_⟩⟩⟩⟩, fun h1 => ?_⟩
    · refine ResOk.mk [] [(0, 100000), (1, 16), (2, 1026), (3, 78)] [] _ _ ?_ ⟨⟨N, F, M, fun _ => N, h, M + 1, fun i => if i < M then r i else true, yq + 1⟩, ⟨by simp only []; omega, fun i _ => hF i, by simp only []; omega, by simp only []; omega, fun i _ => by simp only []; omega, by simp only []; omega, fun _ => by simp only []; omega⟩, rfl, rfl⟩
      simp [doneC, resOf, resAV, tup, pinR, PV.Le_self, hbs, St.lowers, St.lower, stLe, leEnv, leObs, obLe, injB, pinC, AV.leC, AV.leCs, PV.leC, PV.Le_v, St.get, St.obj, look, rho, isNew, keptC, renH, Mode.ok, Mode.isZ, PV.isVal, PV.isNilSl, List.all_nil, List.all_cons, List.any_nil, List.any_cons, List.map_nil, List.map_cons, res19]
      intro i hi
      by_cases e : i < M
      · simp [e]; exact MK_le (by simp [e])
      · simp [e, setG, cellSet, show i - M = 0 by omega]; exact MK_le' (by simp [e])
    · refine ResOk.mk [] [(0, 100000), (1, 89), (2, 1026), (3, 77777)] [] _ _ ?_ ⟨⟨N + 1, fun i => if i < N then F i else F 0, M, fun _ => N, h, M, r, yq + 1⟩, ⟨by simp only []; omega, fun i _ => by simp only []; split <;> exact hF _, by simp only []; omega, by simp only []; omega, fun i _ => by simp only []; omega, by simp only []; omega, fun _ => by simp only []; omega⟩, rfl, rfl⟩
      simp [doneC, resOf, resAV, tup, pinR, PV.Le_self, hbs, St.lowers, St.lower, stLe, leEnv, leObs, obLe, injB, pinC, AV.leC, AV.leCs, PV.leC, PV.Le_v, St.get, St.obj, look, rho, isNew, keptC, renH, Mode.ok, Mode.isZ, PV.isVal, PV.isNilSl, List.all_nil, List.all_cons, List.any_nil, List.any_cons, List.map_nil, List.map_cons, res19]
      intro i hi
      by_cases e : i < N
      · simp [e]; exact TR_le (by simp [e])
      · simp [e, setG, cellSet, show i - N = 0 by omega]; exact TR_le' (by simp [e])
    · refine ResOk.mk [] [(0, 100000), (1, 16), (2, 103), (3, 108)] [] _ _ ?_ ⟨⟨N, F, M + 1, fun _ => N, fun i j => if i < M then h i j else if j = 0 then 1 else 0, M + 1, fun i => if i < M then r i else false, yq + 1⟩, ⟨by simp only []; omega, fun i _ => hF i, by simp only []; omega, by simp only []; omega, fun i _ => by simp only []; omega, by simp only []; omega, fun e => ?_⟩, rfl, rfl⟩
      · simp [doneC, resOf, resAV, tup, pinR, PV.Le_self, hbs, St.lowers, St.lower, stLe, leEnv, leObs, obLe, injB, pinC, AV.leC, AV.leCs, PV.leC, PV.Le_v, St.get, St.obj, look, rho, isNew, keptC, renH, Mode.ok, Mode.isZ, PV.isVal, PV.isNilSl, List.all_nil, List.all_cons, List.any_nil, List.any_cons, List.map_nil, List.map_cons, res19]
        refine ⟨fun i hi => ?_, fun i hi => ?_⟩
        · by_cases e : i < M
          · simp [e]
            exact RR_le rfl fun j hj => by simp only [e, if_true]
          · obtain rfl : i = M := by omega
            simp [setG, cellSet]
            refine .sl _ _ (fun e => (by cases e)) 1 _ _ _ _ rfl fun j l hj hl => ?_
            obtain rfl : l = 0 := by omega
            by_cases e2 : j = 0
            · subst e2; simp; exact .refl _
            · simp [e2, cellSet]; exact .refl _
        · by_cases e : i < M
          · simp [e]; exact MK_le (by simp [e])
          · simp [e, setG, cellSet, show i - M = 0 by omega]; exact MK_le' (by simp [e])
      · simp only [] at e ⊢
        rw [pad_no (i := M) (by omega) (.inr ?_)] at e
        · cases e
        · simp only [zB, Nat.lt_irrefl, if_false, Bool.false_or]
          exact allB_no (show 0 < N by omega) (by simp)
    · refine ResOk.mk [] [(0, 100000), (1, 16), (2, 66), (3, 71)] [] _ _ ?_ ⟨⟨N, F, M + 1, fun i => if i < M then N else 0, h, M + 1, fun i => if i < M then r i else true, yq + 1⟩, ⟨by simp only []; omega, fun i _ => hF i, by simp only []; omega, by simp only []; omega, fun i _ => by simp only []; split <;> omega, by simp only []; omega, fun e => ?_⟩, rfl, rfl⟩
      · simp [doneC, resOf, resAV, tup, pinR, PV.Le_self, hbs, St.lowers, St.lower, stLe, leEnv, leObs, obLe, injB, pinC, AV.leC, AV.leCs, PV.leC, PV.Le_v, St.get, St.obj, look, rho, isNew, keptC, renH, Mode.ok, Mode.isZ, PV.isVal, PV.isNilSl, List.all_nil, List.all_cons, List.any_nil, List.any_cons, List.map_nil, List.map_cons, res19]
        refine ⟨fun i hi => ?_, fun i hi => ?_⟩
        · by_cases e : i < M
          · simp [e]
            exact RR_le (by simp only [e, if_true]) fun j hj => rfl
          · obtain rfl : i = M := by omega
            simp [setG, cellSet]
            refine .sl _ _ (fun e => (by cases e)) 1 _ _ _ _ (by simp) fun j l hj hl => ?_
            omega
        · by_cases e : i < M
          · simp [e]; exact MK_le (by simp [e])
          · simp [e, setG, cellSet, show i - M = 0 by omega]; exact MK_le' (by simp [e])
      · simp only [] at e ⊢
        rw [pad_no (i := M) (by omega) (.inl ?_)] at e
        · cases e
        · have : ¬ 0 = N := by omega
          simp [rowB, this]
    · refine ResOk.mk [] [(0, 100000), (1, 16), (2, 1026), (3, 77777)] [] _ _ ?_ ⟨⟨N, F, M, fun _ => N, h, M, r, yq⟩, ⟨by simp only []; omega, fun i _ => hF i, by simp only []; omega, by simp only []; omega, fun i _ => by simp only []; omega, by simp only []; omega, fun _ => by simp only []; omega⟩, rfl, rfl⟩
      simp [doneC, resOf, resAV, tup, pinR, PV.Le_self, hbs, St.lowers, St.lower, stLe, leEnv, leObs, obLe, injB, pinC, AV.leC, AV.leCs, PV.leC, PV.Le_v, St.get, St.obj, look, rho, isNew, keptC, renH, Mode.ok, Mode.isZ, PV.isVal, PV.isNilSl, List.all_nil, List.all_cons, List.any_nil, List.any_cons, List.map_nil, List.map_cons, res19]
theorem c_dPad (nn : Bool) (n : Nat) (f : Nat → Int) (p : Nat) (k Mx m : Int) (hb : Bytes f) (hp : p ≤ 10000) (hk : 0 ≤ k ∧ k ≤ 2) (hMx : 0 ≤ Mx ∧ Mx ≤ 20) : PSome Tryd.prog G0 19 [.adr 0 0, AI k, AI Mx, AI m] [(0, RD nn n f p)] DP (DpOk p Mx.toNat) dpR (dpH nn n f) := by
  refine PCall.by chk19 rfl (ev_dPad nn n f p k Mx m) ?_
  have e0 : IntKind.i64.wrap (Mx + 1) = Mx + 1 := wrap_in (by omega) (by omega)
  simp only [VC.holds_split, VC.holds_need, VC.holds_doneP, VC.holds_done, VC.holds_either, VC.holds_call, VC.holds_callE, VC.holds_lend, VC.holds_stop, VC.holds_fail, decide_eq_true_eq, decide_eq_false_iff_not, Nat.zero_add, Int.toNat_natCast, e0]
  have r1 := pick_rng (n := n) (p := p + 2) (m := Mx + 1) hb (by omega) (by omega)
  refine ⟨c_dNamesS nn n f p k hb (by omega) hk, fun x hx => ?_⟩
  obtain ⟨x1, x2, x3⟩ := hx
  have xs : ∀ i, (litS x i).size ≤ 5 := fun i => litS_of (φ := fun y => y.size ≤ 5) x3 (by decide) i
  generalize litS x = X at *
  generalize x.length = N at *
  have cp := c_pick nn n f (p + 2) (Mx + 1) hb (by omega)
  generalize pickV n f (p + 2) (Mx + 1) = M at *
  obtain ⟨M, rfl⟩ : ∃ M' : Nat, M = M' := ⟨M.toNat, by omega⟩
  simp only [Int.toNat_natCast]
  have hMN : M * N ≤ 20 * 3 := Nat.mul_le_mul (by omega) (by omega)
  refine ⟨⟨⟨by omega, by omega⟩, allV_TR⟩, cp, c_dRows nn n f _ N M hb (by omega) (by omega) (by omega), ?_⟩
  generalize hC : (fun i j => cellV n f (p + 2 + 1 + 4 * (i * N) + 4 * j)) = C at *
  generalize hq : p + 2 + 1 + 4 * (M * N) = q at *
  refine loop_by (st_dPad nn n f q m N X M) (fun x => x.1 ≤ M) (fun x => M - x.1) (0, C, fun _ => false) [] [] [77777] (Nat.zero_le _) ?_ (fun I x => evr_dPad nn n f p q m N X M I x) fun x hx => ?_
  · simp [st_dPad, hbs, St.lowers, St.lower, stLe, leEnv, leObs, obLe, injB, pinC, AV.leC, AV.leCs, PV.leC, PV.Le_v, St.get, St.obj, look, rho, isNew, keptC, renH, Mode.ok, Mode.isZ, PV.isVal, PV.isNilSl, List.all_nil, List.all_cons, List.any_nil, List.any_cons, List.map_nil, List.map_cons, PV.Le_self]
  · obtain ⟨k, h, r⟩ := x
    simp only [] at hx
    have e1 : IntKind.i64.wrap ((k : Int) + 1) = ((k + 1 : Nat) : Int) := wrap_in (by omega) (by omega)
    simp only [VC.holds_split, VC.holds_need, VC.holds_doneP, VC.holds_done, VC.holds_either, VC.holds_call, VC.holds_callE, VC.holds_lend, VC.holds_stop, VC.holds_fail, decide_eq_true_eq, decide_eq_false_iff_not, Int.toNat_natCast]
    refine ⟨fun h1 => ⟨c_pick _ _ _ _ _ hb (by omega), ⟨⟨by omega, by omega⟩, allV1 rfl⟩, ?_⟩, fun h1 => ?_⟩
    · generalize hr : (fun i => if i < k then r i else decide (0 < pickV n f (q + k) 3)) = r'
      refine Go.Gw.M.by [] [(77777, 41)] [] ?_ (evr_dPadC nn n f p q m N X M k h r' _ _) ?_
      · simp [st_dPadC, hbs, St.lowers, St.lower, stLe, leEnv, leObs, obLe, injB, pinC, AV.leC, AV.leCs, PV.leC, PV.Le_v, St.get, St.obj, look, rho, isNew, keptC, renH, Mode.ok, Mode.isZ, PV.isVal, PV.isNilSl, List.all_nil, List.all_cons, List.any_nil, List.any_cons, List.map_nil, List.map_cons, PV.Le_self]
        intro i hi
        by_cases e : i < k
        · simp [e, ← hr]; exact MK_le (by simp [e])
        · simp [e, ← hr, setG, cellSet, show i - k = 0 by omega]; exact MK_le' (by simp [e])
      · simp only [VC.holds_split, VC.holds_need, VC.holds_doneP, VC.holds_done, VC.holds_either, VC.holds_call, VC.holds_callE, VC.holds_lend, VC.holds_stop, VC.holds_fail, decide_eq_true_eq, decide_eq_false_iff_not, Int.toNat_natCast]
        refine ⟨⟨by omega, by omega⟩, by omega, fun h2 => ⟨⟨by omega, by omega, by simp; omega, by omega⟩, ⟨by omega, by omega⟩, by omega, Again.mk (k + 1, (fun i j => if i = k then 0 else h i j), r') [] [] [] (by simp only []; omega) (by simp only []; omega) ?_⟩, fun h2 => Again.mk (k + 1, h, r') [] [] [] (by simp only []; omega) (by simp only []; omega) ?_⟩
        · simp [st_dPad, hbs, St.lowers, St.lower, stLe, leEnv, leObs, obLe, injB, pinC, AV.leC, AV.leCs, PV.leC, PV.Le_v, St.get, St.obj, look, rho, isNew, keptC, renH, Mode.ok, Mode.isZ, PV.isVal, PV.isNilSl, List.all_nil, List.all_cons, List.any_nil, List.any_cons, List.map_nil, List.map_cons, PV.Le_self, e1]
          refine ⟨by omega, fun i hi => ?_⟩
          by_cases e : i = k
          · subst e
            simp [setG, cellSet]
            refine .sl _ _ (fun e => (by cases e)) 1 _ _ _ _ rfl fun j l hj hl => ?_
            obtain rfl : l = 0 := by omega
            simp; exact .refl _
          · simp [setG, cellSet, e]
            exact RR_le rfl fun j hj => by simp only [e, if_false]
        · simp [st_dPad, hbs, St.lowers, St.lower, stLe, leEnv, leObs, obLe, injB, pinC, AV.leC, AV.leCs, PV.leC, PV.Le_v, St.get, St.obj, look, rho, isNew, keptC, renH, Mode.ok, Mode.isZ, PV.isVal, PV.isNilSl, List.all_nil, List.all_cons, List.any_nil, List.any_cons, List.map_nil, List.map_cons, PV.Le_self, e1]
          omega
    · have hkM : k = M := by omega
      subst hkM
      refine Go.Gw.M.wk (Wk.mk [] [] [] ?_) (dPad_T nn n f p (q + k) m N X k Mx.toNat h r hb (by omega) (by omega) (by omega) (fun i => xs i) (by omega) (by omega))
      simp [st_dPadT, hbs, St.lowers, St.lower, stLe, leEnv, leObs, obLe, injB, pinC, AV.leC, AV.leCs, PV.leC, PV.Le_v, St.get, St.obj, look, rho, isNew, keptC, renH, Mode.ok, Mode.isZ, PV.isVal, PV.isNilSl, List.all_nil, List.all_cons, List.any_nil, List.any_cons, List.map_nil, List.map_cons, PV.Le_self]
end Go.Gw
