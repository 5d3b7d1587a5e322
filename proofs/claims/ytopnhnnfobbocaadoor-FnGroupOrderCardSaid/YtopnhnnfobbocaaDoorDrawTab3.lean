/- Tables drawn, whole; with no condition. -/
import Derived.Test.YtopnhnnfobbocaaDoorDrawTab
import Derived.Test.YtopnhnnfobbocaaDoorFits
import Derived.KernelRfl
namespace Go.Gw
open Go Go.Proofs
set_option linter.unusedSimpArgs false
set_option linter.unusedVariables false
set_option maxRecDepth 100000
def ir86_C1 : Ir :=
  (.dreg [82, 83, 84, 85, 86, 87, 88, 89, 90, 91, 92, 93, 94, 95] [0, 1, 0, 4, 12, 28, 63, 127, 0, 0, 512, 1792, 3840, 8191, 16383] [(1, 1083), (3, 1085), (7, 1089), (8, 90), (10, 1092), (10, 2092), (10, 3092), (10, 4092), (10, 5092), (10, 6092), (10, 7092), (10, 8092), (12, 1094)] [o 82 (.fadr 1 (tt 7)),
           o 83 (.load false 1 (tt 82)),
           o 84 (.fadr 1 (tt 7)),
           o 85 (.load false 1 (tt 84)),
           o 86 (.len (tt 85)),
           o 87 (.bin .sub (tt 86) (ci 1)),
           o 88 (.idx 1 (tt 83) (tt 87)),
           o 89 (.load false 1 (tt 88)),
           o 90 (.mkSl 1 2 [(.int .i64 0)] [(0, (ci 100001)), (1, (ci (-100001)))]),
           o 91 (.mov (tt 0)),
           o 92 (.call 87 [(tt 91), (ci 2)]),
           o 93 (.idx 1 (tt 90) (tt 92)),
           o 94 (.load false 1 (tt 93)),
           o 95 (.idx 1 (tt 89) (ci 0)),
           on (.store 1 (tt 95) (tt 94))])
def ir86_D1 : Ir :=
  (.seq
  (.reg [96] [o 96 (.load true 2 (tt 7)),
    on (.store 2 (tt 6) (tt 96))])
  .ret)
def ir86 : Ir :=
  (.seq
  (.reg [] [o 6 (.alloc [(.slice none 0 0), (.slice none 0 0)])])
  (.seq
  (.reg [8, 9, 10, 11, 12, 13] [o 8 (.mkSl 1 0 [(.string ⟨#[]⟩)] []),
    o 9 (.mov (tt 0)),
    o 10 (.mov (tt 1)),
    o 11 (.call 146 [(tt 9), (tt 10)]),
    o 12 (.app 1 16 true (tt 8) (tt 11)),
    o 13 (.build [(.slice none 0 0), (.slice none 0 0)] [(0, 1, (tt 12))]),
    o 7 (.alloc [(.slice none 0 0), (.slice none 0 0)]),
    on (.store 2 (tt 7) (tt 13))])
  (.seq
  (.dreg [14, 15, 16, 17, 18, 19, 20, 21, 22, 23, 24, 25, 26, 27, 28, 29] [0, 0, 2, 6, 0, 16, 0, 112, 240, 0, 752, 1776, 4080, 8176, 16383, 32767, 65535] [(2, 1016), (5, 1019), (5, 2019), (5, 3019), (5, 4019), (5, 5019), (5, 6019), (5, 7019), (5, 8019), (7, 1021), (7, 2021), (7, 3021), (7, 4021), (7, 5021), (7, 6021), (7, 7021), (7, 8021), (8, 22), (10, 1024), (10, 2024), (10, 3024), (10, 4024), (10, 5024), (10, 6024), (10, 7024), (10, 8024), (13, 1027), (14, 1028), (14, 2028), (14, 3028), (14, 4028), (14, 5028), (14, 6028), (14, 7028), (14, 8028)] [o 14 (.mov (tt 0)),
    o 15 (.fadr 0 (tt 7)),
    o 16 (.load false 1 (tt 15)),
    o 17 (.len (tt 16)),
    o 18 (.mov (tt 0)),
    o 19 (.call 87 [(tt 18), (ci 6)]),
    o 20 (.mov (tt 0)),
    o 21 (.call 87 [(tt 20), (ci 6)]),
    o 22 (.mkSl 1 3 [(.int .i64 0)] [(0, (tt 19)), (1, (tt 21)), (2, (ci 16))]),
    o 23 (.mov (tt 0)),
    o 24 (.call 87 [(tt 23), (ci 12)]),
    o 25 (.bin .quo (tt 24) (ci 5)),
    o 26 (.idx 1 (tt 22) (tt 25)),
    o 27 (.load false 1 (tt 26)),
    o 28 (.call 147 [(tt 14), (tt 17), (tt 27)]),
    o 29 (.fadr 1 (tt 7)),
    on (.store 1 (tt 29) (tt 28))])
  (.seq
  (.seq
  (.reg [30, 31] [o 30 (.mov (tt 0)),
    o 31 (.mov (tt 2)),
    o 32 (.call 106 [(tt 30), (tt 31)])])
  (.cond (tt 32)
   (.seq
   (.reg [33] [o 33 (.mov (tt 0)),
     o 34 (.call 87 [(tt 33), (ci 6)])])
   (.block 0
    (.seq
    (.reg [38] [o 38 (.bin .eql (tt 34) (ci 0)),
      o 37 (.mov (tt 38))])
    (.cond (tt 37)
     (.dreg [39, 40, 41, 42, 43] [0, 1, 0, 4, 15, 31] [(1, 1040), (3, 1042), (3, 2042), (3, 3042), (3, 4042), (3, 5042), (3, 6042), (3, 7042), (3, 8042)] [o 39 (.fadr 0 (tt 7)),
       o 40 (.load false 1 (tt 39)),
       o 41 (.mov (tt 0)),
       o 42 (.call 148 [(tt 41), (ci 1)]),
       o 43 (.idx 1 (tt 40) (ci 0)),
       on (.store 1 (tt 43) (tt 42))])
     (.seq
     (.reg [45] [o 45 (.bin .eql (tt 34) (ci 1)),
       o 44 (.mov (tt 45))])
     (.cond (tt 44)
      (.dreg [46, 47, 48, 49, 50, 51, 52, 53, 54] [0, 1, 0, 4, 12, 28, 60, 127, 255, 511] [(1, 1047), (3, 1049), (5, 1051), (6, 52), (7, 53)] [o 46 (.fadr 0 (tt 7)),
        o 47 (.load false 1 (tt 46)),
        o 48 (.fadr 0 (tt 7)),
        o 49 (.load false 1 (tt 48)),
        o 50 (.idx 1 (tt 49) (ci 0)),
        o 51 (.load false 1 (tt 50)),
        o 52 (.mkSl 1 1 [(.string ⟨#[]⟩)] [(0, (tt 51))]),
        o 53 (.app 1 16 true (tt 47) (tt 52)),
        o 54 (.fadr 0 (tt 7)),
        on (.store 1 (tt 54) (tt 53))])
      (.seq
      (.reg [56] [o 56 (.bin .eql (tt 34) (ci 2)),
        o 55 (.mov (tt 56))])
      (.cond (tt 55)
       (.reg [57, 58, 59, 60, 61, 62] [o 57 (.fadr 1 (tt 7)),
         o 58 (.load false 1 (tt 57)),
         o 59 (.mkSl 1 7 [(.int .i64 0)] [(0, (ci 1)), (1, (ci 2)), (2, (ci 3)), (3, (ci 4)), (4, (ci 5)), (5, (ci 6)), (6, (ci 7))]),
         o 60 (.mkSl 1 1 [(.slice none 0 0)] [(0, (tt 59))]),
         o 61 (.app 1 24 false (tt 58) (tt 60)),
         o 62 (.fadr 1 (tt 7)),
         on (.store 1 (tt 62) (tt 61))])
       (.seq
       (.reg [64] [o 64 (.bin .eql (tt 34) (ci 3)),
         o 63 (.mov (tt 64))])
       (.cond (tt 63)
        (.reg [65, 66, 67, 68, 69, 70] [o 65 (.mov (tt 0)),
          o 66 (.fadr 0 (tt 7)),
          o 67 (.load false 1 (tt 66)),
          o 68 (.len (tt 67)),
          o 69 (.call 147 [(tt 65), (tt 68), (ci 17)]),
          o 70 (.fadr 1 (tt 7)),
          on (.store 1 (tt 70) (tt 69))])
        (.seq
        (.reg [72] [o 72 (.bin .eql (tt 34) (ci 4)),
          o 71 (.mov (tt 72))])
        (.cond (tt 71)
         (.seq
         (.dreg [73, 74, 75, 76, 77, 78, 79, 80, 81] [0, 1, 0, 4, 12, 28, 60, 127, 255, 511] [(1, 1074), (3, 1076), (5, 78), (6, 79), (7, 80)] [o 73 (.fadr 1 (tt 7)),
           o 74 (.load false 1 (tt 73)),
           o 75 (.fadr 0 (tt 7)),
           o 76 (.load false 1 (tt 75)),
           o 77 (.len (tt 76)),
           o 78 (.mkSlc 1 8 [(.int .i64 0)] (tt 77) (tt 77)),
           o 79 (.mkSl 1 1 [(.slice none 0 0)] [(0, (tt 78))]),
           o 80 (.app 1 24 false (tt 74) (tt 79)),
           o 81 (.fadr 1 (tt 7)),
           on (.store 1 (tt 81) (tt 80))])
         ir86_C1)
         (.reg [35, 36] [o 35 (.mkSl 1 0 [(.string ⟨#[]⟩)] []),
           o 36 (.fadr 0 (tt 7)),
           on (.store 1 (tt 36) (tt 35))])))))))))))))
   .skip))
  ir86_D1))))
def keep86 : List Nat := [0, 1, 2, 6, 7, 32, 34, 37, 44, 55, 63, 71]
def res86 : List RI := [.cell true 2 6]
theorem chk86 : chk Tryd.prog 86 3 keep86 = some (ir86, res86) := by kernel_rfl

theorem PObj.some {P : Program} {G : List (Nat × PV)} {f : FuncId} {args : List AV} {H H' : List (Nat × Ob)} {r : AV} {α : Type} {φ : α → Prop} {rr : α → AV} {HH : α → List (Nat × Ob)} (h : PObj P G f args H r H') (y : α) (hy : φ y) (h1 : r = rr y) (h2 : H' = HH y) : PSome P G f args H α φ rr HH :=
  PObj.imp h fun x h' ⟨e1, e2⟩ => ⟨y, hy, e1.trans h1, e2.trans h2⟩
theorem oddP_ge (p : Nat) (m : Int) : p ≤ oddP p m := by unfold oddP; split <;> omega
theorem c_oddS (nn : Bool) (n : Nat) (f : Nat → Int) (p : Nat) (m : Int) (hb : Bytes f) (hp : p ≤ 1000000000) : PSome Tryd.prog G0 106 [.adr 0 0, AI m] [(0, RD nn n f p)] (Bool × Nat) (fun y => p ≤ y.2 ∧ y.2 ≤ p + 1) (fun y => AB y.1) (fun y => [(0, RD nn n f y.2)]) :=
  (c_odd nn n f p m hb hp).some (oddV n f p m, oddP p m) ⟨oddP_ge p m, oddP_le p m⟩ rfl rfl
theorem litS_of {φ : ByteArray → Prop} {l : List ByteArray} (h : ∀ x, x ∈ l → φ x) (h0 : φ ByteArray.empty) (i : Nat) : φ (litS l i) := by
  unfold litS
  rw [List.getD_eq_getElem?_getD]
  cases e : l[i]? with
  | none => exact h0
  | some x => exact h x (List.mem_of_getElem? e)
theorem nameV_size (n : Nat) (f : Nat → Int) (p : Nat) (m : Int) : (nameV n f p m).size ≤ 9 := by
  unfold nameV
  split
  · exact litS_of (φ := fun x => x.size ≤ 9) (by decide) (by decide) _
  · exact litS_of (φ := fun x => x.size ≤ 9) (by decide) (by decide) _
theorem c_dNamesS (nn : Bool) (n : Nat) (f : Nat → Int) (p : Nat) (k : Int) (hb : Bytes f) (hp : p ≤ 1000000000 - 2) (hk : 0 ≤ k ∧ k ≤ 2) : PSome Tryd.prog G0 146 [.adr 0 0, AI k] [(0, RD nn n f p)] (List ByteArray) nmOk nmR (nmH nn n f (p + 2)) := by
  have h : k = 0 ∨ k = 1 ∨ k = 2 := by omega
  rcases h with rfl | rfl | rfl
  · exact c_dNames0 nn n f p hb hp
  · exact c_dNames1 nn n f p hb hp
  · exact c_dNames2 nn n f p hb hp
theorem ev_dTab : ∀ (nn : Bool) (n : Nat) (f : Nat → Int) (p : Nat) (k m : Int), ev G0 res86 [((0 : Nat), RD nn n f p)] (3000 : Nat) (Or.callE [(100000 : Nat)] (List ByteArray) nmOk nmR (nmH nn n f (p + (2 : Nat))) fun (x : List ByteArray) => Or.call [(100000 : Nat)] (AI (pickV n f (p + (2 : Nat)) (6 : Int))) [((0 : Nat), RD nn n f (p + (2 : Nat) + (1 : Nat)))] (Or.call [(100000 : Nat)] (AI (pickV n f (p + (2 : Nat) + (1 : Nat)) (6 : Int))) [((0 : Nat), RD nn n f (p + (2 : Nat) + (1 : Nat) + (1 : Nat)))] (Or.call [(100000 : Nat)] (AI (pickV n f (p + (2 : Nat) + (1 : Nat) + (1 : Nat)) (12 : Int))) [((0 : Nat), RD nn n f (p + (2 : Nat) + (1 : Nat) + (1 : Nat) + (1 : Nat)))] (Or.call [(100000 : Nat)] (AV.own (1 : Nat)) [((0 : Nat), RD nn n f (p + (2 : Nat) + (1 : Nat) + (1 : Nat) + (1 : Nat) + (4 : Nat) * ((litI [pickV n f (p + (2 : Nat)) (6 : Int), pickV n f (p + (2 : Nat) + (1 : Nat)) (6 : Int), (16 : Int)] (IntKind.i64.wrap ((pickV n f (p + (2 : Nat) + (1 : Nat) + (1 : Nat)) (12 : Int)).tdiv (5 : Int))).toNat).toNat * (↑((0 : Nat) + x.length) : Int).toNat))), ((1 : Nat), Ob.row Mode.u false (1 : Nat) (litI [pickV n f (p + (2 : Nat)) (6 : Int), pickV n f (p + (2 : Nat) + (1 : Nat)) (6 : Int), (16 : Int)] (IntKind.i64.wrap ((pickV n f (p + (2 : Nat) + (1 : Nat) + (1 : Nat)) (12 : Int)).tdiv (5 : Int))).toNat).toNat (RR (fun (x_1 : Nat) => (↑((0 : Nat) + x.length) : Int).toNat) fun (i j : Nat) => cellV n f (p + (2 : Nat) + (1 : Nat) + (1 : Nat) + (1 : Nat) + (4 : Nat) * (i * (↑((0 : Nat) + x.length) : Int).toNat) + (4 : Nat) * j)) [])] (Or.callE [(100000 : Nat)] (Bool × Nat) (fun (y : Bool × Nat) => p + (2 : Nat) + (1 : Nat) + (1 : Nat) + (1 : Nat) + (4 : Nat) * ((litI [pickV n f (p + (2 : Nat)) (6 : Int), pickV n f (p + (2 : Nat) + (1 : Nat)) (6 : Int), (16 : Int)] (IntKind.i64.wrap ((pickV n f (p + (2 : Nat) + (1 : Nat) + (1 : Nat)) (12 : Int)).tdiv (5 : Int))).toNat).toNat * (↑((0 : Nat) + x.length) : Int).toNat) ≤ y.snd ∧ y.snd ≤ p + (2 : Nat) + (1 : Nat) + (1 : Nat) + (1 : Nat) + (4 : Nat) * ((litI [pickV n f (p + (2 : Nat)) (6 : Int), pickV n f (p + (2 : Nat) + (1 : Nat)) (6 : Int), (16 : Int)] (IntKind.i64.wrap ((pickV n f (p + (2 : Nat) + (1 : Nat) + (1 : Nat)) (12 : Int)).tdiv (5 : Int))).toNat).toNat * (↑((0 : Nat) + x.length) : Int).toNat) + (1 : Nat)) (fun (y : Bool × Nat) => AB y.fst) (fun (y : Bool × Nat) => [((0 : Nat), RD nn n f y.snd)]) fun (y : Bool × Nat) => (Or.call [(100000 : Nat)] (AI (pickV n f y.2 (6 : Int))) [((0 : Nat), RD nn n f (y.2 + (1 : Nat)))] ((Or.call [(100000 : Nat)] (AT (nameV n f (y.2 + (1 : Nat)) (1 : Int))) [((0 : Nat), RD nn n f (oddP (y.2 + (1 : Nat)) (1 : Int) + (1 : Nat)))] Or.nil).split (Or.nil.split (Or.nil.split ((Or.call [(100000 : Nat)] (AV.own (1 : Nat)) [((0 : Nat), RD nn n f (y.2 + (1 : Nat) + (4 : Nat) * (Int.toNat (17 : Int) * (↑((0 : Nat) + x.length) : Int).toNat))), ((1 : Nat), Ob.row Mode.u false (1 : Nat) (Int.toNat (17 : Int)) (RR (fun (x_1 : Nat) => (↑((0 : Nat) + x.length) : Int).toNat) fun (i j : Nat) => cellV n f (y.2 + (1 : Nat) + (4 : Nat) * (i * (↑((0 : Nat) + x.length) : Int).toNat) + (4 : Nat) * j)) [])] Or.nil).split ((Or.stop (14 : Nat)).split Or.nil)))))).split Or.nil))))) [Item.ir ir86] (start [AV.adr (0 : Nat) (0 : Nat), AI k, AI m] [((0 : Nat), RD nn n f p)]) = VC.callE (List ByteArray) (146 : Nat) [AV.adr (0 : Nat) (0 : Nat), AV.p true (PV.v (Value.int IntKind.i64 k))] [((0 : Nat), Ob.box [AV.p false (PV.sl nn (1 : Nat) n (PB f)), AV.p true (PV.v (Value.int IntKind.i64 (↑p : Int)))])] nmOk nmR (nmH nn n f (p + (2 : Nat))) fun (x : List ByteArray) => VC.need ((((0 : Nat) + x.length) * (16 : Nat) ≤ (140737488355328 : Nat) ∧ (↑((0 : Nat) + x.length) : Int) ≤ (9223372036854775807 : Int)) ∧ allV (1 : Nat) x.length (TR (litS x))) (VC.call (87 : Nat) [AV.adr (0 : Nat) (0 : Nat), AV.p true (PV.v (Value.int IntKind.i64 (6 : Int)))] [((0 : Nat), Ob.box [AV.p false (PV.sl nn (1 : Nat) n (PB f)), AV.p true (PV.v (Value.int IntKind.i64 (↑(p + (2 : Nat)) : Int)))])] (AI (pickV n f (p + (2 : Nat)) (6 : Int))) [((0 : Nat), RD nn n f (p + (2 : Nat) + (1 : Nat)))] (VC.call (87 : Nat) [AV.adr (0 : Nat) (0 : Nat), AV.p true (PV.v (Value.int IntKind.i64 (6 : Int)))] [((0 : Nat), Ob.box [AV.p false (PV.sl nn (1 : Nat) n (PB f)), AV.p true (PV.v (Value.int IntKind.i64 (↑(p + (2 : Nat) + (1 : Nat)) : Int)))])] (AI (pickV n f (p + (2 : Nat) + (1 : Nat)) (6 : Int))) [((0 : Nat), RD nn n f (p + (2 : Nat) + (1 : Nat) + (1 : Nat)))] (VC.call (87 : Nat) [AV.adr (0 : Nat) (0 : Nat), AV.p true (PV.v (Value.int IntKind.i64 (12 : Int)))] [((0 : Nat), Ob.box [AV.p false (PV.sl nn (1 : Nat) n (PB f)), AV.p true (PV.v (Value.int IntKind.i64 (↑(p + (2 : Nat) + (1 : Nat) + (1 : Nat)) : Int)))])] (AI (pickV n f (p + (2 : Nat) + (1 : Nat) + (1 : Nat)) (12 : Int))) [((0 : Nat), RD nn n f (p + (2 : Nat) + (1 : Nat) + (1 : Nat) + (1 : Nat)))] (VC.need ((5 : Int) ≠ (0 : Int)) (VC.need ((0 : Int) ≤ IntKind.i64.wrap ((pickV n f (p + (2 : Nat) + (1 : Nat) + (1 : Nat)) (12 : Int)).tdiv (5 : Int)) ∧ (IntKind.i64.wrap ((pickV n f (p + (2 : Nat) + (1 : Nat) + (1 : Nat)) (12 : Int)).tdiv (5 : Int))).toNat < (3 : Nat)) (VC.need ((IntKind.i64.wrap ((pickV n f (p + (2 : Nat) + (1 : Nat) + (1 : Nat)) (12 : Int)).tdiv (5 : Int))).toNat < (3 : Nat)) (VC.call (147 : Nat) [AV.adr (0 : Nat) (0 : Nat), AV.p true (PV.v (Value.int IntKind.i64 (↑((0 : Nat) + x.length) : Int))), AV.p true (PV.v (Value.int IntKind.i64 (litI [pickV n f (p + (2 : Nat)) (6 : Int), pickV n f (p + (2 : Nat) + (1 : Nat)) (6 : Int), (16 : Int)] (IntKind.i64.wrap ((pickV n f (p + (2 : Nat) + (1 : Nat) + (1 : Nat)) (12 : Int)).tdiv (5 : Int))).toNat)))] [((0 : Nat), Ob.box [AV.p false (PV.sl nn (1 : Nat) n (PB f)), AV.p true (PV.v (Value.int IntKind.i64 (↑(p + (2 : Nat) + (1 : Nat) + (1 : Nat) + (1 : Nat)) : Int)))])] (AV.own (1 : Nat)) [((0 : Nat), RD nn n f (p + (2 : Nat) + (1 : Nat) + (1 : Nat) + (1 : Nat) + (4 : Nat) * ((litI [pickV n f (p + (2 : Nat)) (6 : Int), pickV n f (p + (2 : Nat) + (1 : Nat)) (6 : Int), (16 : Int)] (IntKind.i64.wrap ((pickV n f (p + (2 : Nat) + (1 : Nat) + (1 : Nat)) (12 : Int)).tdiv (5 : Int))).toNat).toNat * (↑((0 : Nat) + x.length) : Int).toNat))), ((1 : Nat), Ob.row Mode.u false (1 : Nat) (litI [pickV n f (p + (2 : Nat)) (6 : Int), pickV n f (p + (2 : Nat) + (1 : Nat)) (6 : Int), (16 : Int)] (IntKind.i64.wrap ((pickV n f (p + (2 : Nat) + (1 : Nat) + (1 : Nat)) (12 : Int)).tdiv (5 : Int))).toNat).toNat (RR (fun (x_1 : Nat) => (↑((0 : Nat) + x.length) : Int).toNat) fun (i j : Nat) => cellV n f (p + (2 : Nat) + (1 : Nat) + (1 : Nat) + (1 : Nat) + (4 : Nat) * (i * (↑((0 : Nat) + x.length) : Int).toNat) + (4 : Nat) * j)) [])] (VC.callE (Bool × Nat) (106 : Nat) [AV.adr (0 : Nat) (0 : Nat), AV.p true (PV.v (Value.int IntKind.i64 m))] [((0 : Nat), Ob.box [AV.p false (PV.sl nn (1 : Nat) n (PB f)), AV.p true (PV.v (Value.int IntKind.i64 (↑(p + (2 : Nat) + (1 : Nat) + (1 : Nat) + (1 : Nat) + (4 : Nat) * ((litI [pickV n f (p + (2 : Nat)) (6 : Int), pickV n f (p + (2 : Nat) + (1 : Nat)) (6 : Int), (16 : Int)] (IntKind.i64.wrap ((pickV n f (p + (2 : Nat) + (1 : Nat) + (1 : Nat)) (12 : Int)).tdiv (5 : Int))).toNat).toNat * (↑((0 : Nat) + x.length) : Int).toNat)) : Int)))])] (fun (y : Bool × Nat) => p + (2 : Nat) + (1 : Nat) + (1 : Nat) + (1 : Nat) + (4 : Nat) * ((litI [pickV n f (p + (2 : Nat)) (6 : Int), pickV n f (p + (2 : Nat) + (1 : Nat)) (6 : Int), (16 : Int)] (IntKind.i64.wrap ((pickV n f (p + (2 : Nat) + (1 : Nat) + (1 : Nat)) (12 : Int)).tdiv (5 : Int))).toNat).toNat * (↑((0 : Nat) + x.length) : Int).toNat) ≤ y.snd ∧ y.snd ≤ p + (2 : Nat) + (1 : Nat) + (1 : Nat) + (1 : Nat) + (4 : Nat) * ((litI [pickV n f (p + (2 : Nat)) (6 : Int), pickV n f (p + (2 : Nat) + (1 : Nat)) (6 : Int), (16 : Int)] (IntKind.i64.wrap ((pickV n f (p + (2 : Nat) + (1 : Nat) + (1 : Nat)) (12 : Int)).tdiv (5 : Int))).toNat).toNat * (↑((0 : Nat) + x.length) : Int).toNat) + (1 : Nat)) (fun (y : Bool × Nat) => AB y.fst) (fun (y : Bool × Nat) => [((0 : Nat), RD nn n f y.snd)]) fun (y : Bool × Nat) => VC.split y.1 (VC.call (87 : Nat) [AV.adr (0 : Nat) (0 : Nat), AV.p true (PV.v (Value.int IntKind.i64 (6 : Int)))] [((0 : Nat), Ob.box [AV.p false (PV.sl nn (1 : Nat) n (PB f)), AV.p true (PV.v (Value.int IntKind.i64 (↑y.2 : Int)))])] (AI (pickV n f y.2 (6 : Int))) [((0 : Nat), RD nn n f (y.2 + (1 : Nat)))] (VC.split (pickV n f y.2 (6 : Int) == (0 : Int)) (VC.call (148 : Nat) [AV.adr (0 : Nat) (0 : Nat), AV.p true (PV.v (Value.int IntKind.i64 (1 : Int)))] [((0 : Nat), Ob.box [AV.p false (PV.sl nn (1 : Nat) n (PB f)), AV.p true (PV.v (Value.int IntKind.i64 (↑(y.2 + (1 : Nat)) : Int)))])] (AT (nameV n f (y.2 + (1 : Nat)) (1 : Int))) [((0 : Nat), RD nn n f (oddP (y.2 + (1 : Nat)) (1 : Int) + (1 : Nat)))] (VC.need ((0 : Int) ≤ (0 : Int) ∧ Int.toNat (0 : Int) < (0 : Nat) + x.length) (VC.need ((0 : Nat) < (0 : Nat) + x.length) (VC.done (St.mk [((0 : Nat), AV.adr (100000 : Nat) (0 : Nat)), ((1 : Nat), AV.p true (PV.v (Value.int IntKind.i64 k))), ((2 : Nat), AV.p true (PV.v (Value.int IntKind.i64 m))), ((6 : Nat), AV.adr (6 : Nat) (0 : Nat)), ((7 : Nat), AV.adr (7 : Nat) (0 : Nat)), ((32 : Nat), AV.p true (PV.v (Value.bool y.1))), ((34 : Nat), AV.p true (PV.v (Value.int IntKind.i64 (pickV n f y.2 (6 : Int))))), ((37 : Nat), AV.p true (PV.v (Value.bool (pickV n f y.2 (6 : Int) == (0 : Int)))))] [((100000 : Nat), Ob.box [AV.p false (PV.sl nn (1 : Nat) n (PB f)), AV.p true (PV.v (Value.int IntKind.i64 (↑(oddP (y.2 + (1 : Nat)) (1 : Int) + (1 : Nat)) : Int)))]), ((6 : Nat), Ob.box [AV.own (12 : Nat), AV.own (1028 : Nat)]), ((12 : Nat), Ob.row Mode.u true (1 : Nat) ((0 : Nat) + x.length) (setG [((0 : Nat), (0 : Nat), PV.v (Value.string (nameV n f (y.2 + (1 : Nat)) (1 : Int))))] fun (a b : Nat) => if a < (0 : Nat) then setG [] (fun (x_1 j : Nat) => PV.v ([Value.string (ByteArray.mk #[])].getD j undef)) a b else TR (litS x) (a - (0 : Nat)) b) []), ((7 : Nat), Ob.box [AV.own (12 : Nat), AV.own (1028 : Nat)]), ((1028 : Nat), Ob.row Mode.u false (1 : Nat) (litI [pickV n f (p + (2 : Nat)) (6 : Int), pickV n f (p + (2 : Nat) + (1 : Nat)) (6 : Int), (16 : Int)] (IntKind.i64.wrap ((pickV n f (p + (2 : Nat) + (1 : Nat) + (1 : Nat)) (12 : Int)).tdiv (5 : Int))).toNat).toNat (RR (fun (x_1 : Nat) => (↑((0 : Nat) + x.length) : Int).toNat) fun (i j : Nat) => cellV n f (p + (2 : Nat) + (1 : Nat) + (1 : Nat) + (1 : Nat) + (4 : Nat) * (i * (↑((0 : Nat) + x.length) : Int).toNat) + (4 : Nat) * j)) [])]))))) (VC.split (pickV n f y.2 (6 : Int) == (1 : Int)) (VC.need ((0 : Int) ≤ (0 : Int) ∧ Int.toNat (0 : Int) < (0 : Nat) + x.length) (VC.need ((0 : Nat) < (0 : Nat) + x.length) (VC.need ((((0 : Nat) + x.length + (1 : Nat)) * (16 : Nat) ≤ (140737488355328 : Nat) ∧ (↑((0 : Nat) + x.length + (1 : Nat)) : Int) ≤ (9223372036854775807 : Int)) ∧ allV (1 : Nat) (1 : Nat) (setG [((0 : Nat), (0 : Nat), PV.v (Value.string (litS x ((0 : Nat) - (0 : Nat)))))] fun (x_1 j : Nat) => PV.v ([Value.string (ByteArray.mk #[])].getD j undef))) (VC.done (St.mk [((0 : Nat), AV.adr (100000 : Nat) (0 : Nat)), ((1 : Nat), AV.p true (PV.v (Value.int IntKind.i64 k))), ((2 : Nat), AV.p true (PV.v (Value.int IntKind.i64 m))), ((6 : Nat), AV.adr (6 : Nat) (0 : Nat)), ((7 : Nat), AV.adr (7 : Nat) (0 : Nat)), ((32 : Nat), AV.p true (PV.v (Value.bool y.1))), ((34 : Nat), AV.p true (PV.v (Value.int IntKind.i64 (pickV n f y.2 (6 : Int))))), ((37 : Nat), AV.p true (PV.v (Value.bool (pickV n f y.2 (6 : Int) == (0 : Int))))), ((44 : Nat), AV.p true (PV.v (Value.bool (pickV n f y.2 (6 : Int) == (1 : Int)))))] [((100000 : Nat), Ob.box [AV.p false (PV.sl nn (1 : Nat) n (PB f)), AV.p true (PV.v (Value.int IntKind.i64 (↑(y.2 + (1 : Nat)) : Int)))]), ((6 : Nat), Ob.box [AV.own (53 : Nat), AV.own (1028 : Nat)]), ((7 : Nat), Ob.box [AV.own (53 : Nat), AV.own (1028 : Nat)]), ((1028 : Nat), Ob.row Mode.u false (1 : Nat) (litI [pickV n f (p + (2 : Nat)) (6 : Int), pickV n f (p + (2 : Nat) + (1 : Nat)) (6 : Int), (16 : Int)] (IntKind.i64.wrap ((pickV n f (p + (2 : Nat) + (1 : Nat) + (1 : Nat)) (12 : Int)).tdiv (5 : Int))).toNat).toNat (RR (fun (x_1 : Nat) => (↑((0 : Nat) + x.length) : Int).toNat) fun (i j : Nat) => cellV n f (p + (2 : Nat) + (1 : Nat) + (1 : Nat) + (1 : Nat) + (4 : Nat) * (i * (↑((0 : Nat) + x.length) : Int).toNat) + (4 : Nat) * j)) []), ((53 : Nat), Ob.row Mode.u true (1 : Nat) ((0 : Nat) + x.length + (1 : Nat)) (fun (a b : Nat) => if a < (0 : Nat) + x.length then if a < (0 : Nat) then setG [] (fun (x_1 j : Nat) => PV.v ([Value.string (ByteArray.mk #[])].getD j undef)) a b else TR (litS x) (a - (0 : Nat)) b else setG [((0 : Nat), (0 : Nat), PV.v (Value.string (litS x ((0 : Nat) - (0 : Nat)))))] (fun (x_1 j : Nat) => PV.v ([Value.string (ByteArray.mk #[])].getD j undef)) (a - ((0 : Nat) + x.length)) b) [])]))))) (VC.split (pickV n f y.2 (6 : Int) == (2 : Int)) (VC.need ((((litI [pickV n f (p + (2 : Nat)) (6 : Int), pickV n f (p + (2 : Nat) + (1 : Nat)) (6 : Int), (16 : Int)] (IntKind.i64.wrap ((pickV n f (p + (2 : Nat) + (1 : Nat) + (1 : Nat)) (12 : Int)).tdiv (5 : Int))).toNat).toNat + (1 : Nat)) * (24 : Nat) ≤ (140737488355328 : Nat) ∧ (↑((litI [pickV n f (p + (2 : Nat)) (6 : Int), pickV n f (p + (2 : Nat) + (1 : Nat)) (6 : Int), (16 : Int)] (IntKind.i64.wrap ((pickV n f (p + (2 : Nat) + (1 : Nat) + (1 : Nat)) (12 : Int)).tdiv (5 : Int))).toNat).toNat + (1 : Nat)) : Int) ≤ (9223372036854775807 : Int)) ∧ allOne (1 : Nat) (1 : Nat) (setG [((0 : Nat), (0 : Nat), PV.sl true (1 : Nat) (7 : Nat) fun (i x_1 : Nat) => PV.v (Value.int IntKind.i64 (litI [(1 : Int), (2 : Int), (3 : Int), (4 : Int), (5 : Int), (6 : Int), (7 : Int)] i)))] fun (x_1 j : Nat) => PV.v ([Value.slice none (0 : Nat) (0 : Nat)].getD j undef))) (VC.done (St.mk [((0 : Nat), AV.adr (100000 : Nat) (0 : Nat)), ((1 : Nat), AV.p true (PV.v (Value.int IntKind.i64 k))), ((2 : Nat), AV.p true (PV.v (Value.int IntKind.i64 m))), ((6 : Nat), AV.adr (6 : Nat) (0 : Nat)), ((7 : Nat), AV.adr (7 : Nat) (0 : Nat)), ((32 : Nat), AV.p true (PV.v (Value.bool y.1))), ((34 : Nat), AV.p true (PV.v (Value.int IntKind.i64 (pickV n f y.2 (6 : Int))))), ((37 : Nat), AV.p true (PV.v (Value.bool (pickV n f y.2 (6 : Int) == (0 : Int))))), ((44 : Nat), AV.p true (PV.v (Value.bool (pickV n f y.2 (6 : Int) == (1 : Int))))), ((55 : Nat), AV.p true (PV.v (Value.bool (pickV n f y.2 (6 : Int) == (2 : Int)))))] [((100000 : Nat), Ob.box [AV.p false (PV.sl nn (1 : Nat) n (PB f)), AV.p true (PV.v (Value.int IntKind.i64 (↑(y.2 + (1 : Nat)) : Int)))]), ((6 : Nat), Ob.box [AV.own (12 : Nat), AV.own (61 : Nat)]), ((12 : Nat), Ob.row Mode.u true (1 : Nat) ((0 : Nat) + x.length) (fun (a b : Nat) => if a < (0 : Nat) then setG [] (fun (x_1 j : Nat) => PV.v ([Value.string (ByteArray.mk #[])].getD j undef)) a b else TR (litS x) (a - (0 : Nat)) b) []), ((7 : Nat), Ob.box [AV.own (12 : Nat), AV.own (61 : Nat)]), ((61 : Nat), Ob.row Mode.u false (1 : Nat) ((litI [pickV n f (p + (2 : Nat)) (6 : Int), pickV n f (p + (2 : Nat) + (1 : Nat)) (6 : Int), (16 : Int)] (IntKind.i64.wrap ((pickV n f (p + (2 : Nat) + (1 : Nat) + (1 : Nat)) (12 : Int)).tdiv (5 : Int))).toNat).toNat + (1 : Nat)) (fun (a b : Nat) => if a < (litI [pickV n f (p + (2 : Nat)) (6 : Int), pickV n f (p + (2 : Nat) + (1 : Nat)) (6 : Int), (16 : Int)] (IntKind.i64.wrap ((pickV n f (p + (2 : Nat) + (1 : Nat) + (1 : Nat)) (12 : Int)).tdiv (5 : Int))).toNat).toNat then RR (fun (x_1 : Nat) => (↑((0 : Nat) + x.length) : Int).toNat) (fun (i j : Nat) => cellV n f (p + (2 : Nat) + (1 : Nat) + (1 : Nat) + (1 : Nat) + (4 : Nat) * (i * (↑((0 : Nat) + x.length) : Int).toNat) + (4 : Nat) * j)) a b else setG [((0 : Nat), (0 : Nat), PV.sl true (1 : Nat) (7 : Nat) fun (i x_1 : Nat) => PV.v (Value.int IntKind.i64 (litI [(1 : Int), (2 : Int), (3 : Int), (4 : Int), (5 : Int), (6 : Int), (7 : Int)] i)))] (fun (x_1 j : Nat) => PV.v ([Value.slice none (0 : Nat) (0 : Nat)].getD j undef)) (a - (litI [pickV n f (p + (2 : Nat)) (6 : Int), pickV n f (p + (2 : Nat) + (1 : Nat)) (6 : Int), (16 : Int)] (IntKind.i64.wrap ((pickV n f (p + (2 : Nat) + (1 : Nat) + (1 : Nat)) (12 : Int)).tdiv (5 : Int))).toNat).toNat) b) [])]))) (VC.split (pickV n f y.2 (6 : Int) == (3 : Int)) (VC.call (147 : Nat) [AV.adr (0 : Nat) (0 : Nat), AV.p true (PV.v (Value.int IntKind.i64 (↑((0 : Nat) + x.length) : Int))), AV.p true (PV.v (Value.int IntKind.i64 (17 : Int)))] [((0 : Nat), Ob.box [AV.p false (PV.sl nn (1 : Nat) n (PB f)), AV.p true (PV.v (Value.int IntKind.i64 (↑(y.2 + (1 : Nat)) : Int)))])] (AV.own (1 : Nat)) [((0 : Nat), RD nn n f (y.2 + (1 : Nat) + (4 : Nat) * (Int.toNat (17 : Int) * (↑((0 : Nat) + x.length) : Int).toNat))), ((1 : Nat), Ob.row Mode.u false (1 : Nat) (Int.toNat (17 : Int)) (RR (fun (x_1 : Nat) => (↑((0 : Nat) + x.length) : Int).toNat) fun (i j : Nat) => cellV n f (y.2 + (1 : Nat) + (4 : Nat) * (i * (↑((0 : Nat) + x.length) : Int).toNat) + (4 : Nat) * j)) [])] (VC.done (St.mk [((0 : Nat), AV.adr (100000 : Nat) (0 : Nat)), ((1 : Nat), AV.p true (PV.v (Value.int IntKind.i64 k))), ((2 : Nat), AV.p true (PV.v (Value.int IntKind.i64 m))), ((6 : Nat), AV.adr (6 : Nat) (0 : Nat)), ((7 : Nat), AV.adr (7 : Nat) (0 : Nat)), ((32 : Nat), AV.p true (PV.v (Value.bool y.1))), ((34 : Nat), AV.p true (PV.v (Value.int IntKind.i64 (pickV n f y.2 (6 : Int))))), ((37 : Nat), AV.p true (PV.v (Value.bool (pickV n f y.2 (6 : Int) == (0 : Int))))), ((44 : Nat), AV.p true (PV.v (Value.bool (pickV n f y.2 (6 : Int) == (1 : Int))))), ((55 : Nat), AV.p true (PV.v (Value.bool (pickV n f y.2 (6 : Int) == (2 : Int))))), ((63 : Nat), AV.p true (PV.v (Value.bool (pickV n f y.2 (6 : Int) == (3 : Int)))))] [((100000 : Nat), Ob.box [AV.p false (PV.sl nn (1 : Nat) n (PB f)), AV.p true (PV.v (Value.int IntKind.i64 (↑(y.2 + (1 : Nat) + (4 : Nat) * (Int.toNat (17 : Int) * (↑((0 : Nat) + x.length) : Int).toNat)) : Int)))]), ((6 : Nat), Ob.box [AV.own (12 : Nat), AV.own (1069 : Nat)]), ((12 : Nat), Ob.row Mode.u true (1 : Nat) ((0 : Nat) + x.length) (fun (a b : Nat) => if a < (0 : Nat) then setG [] (fun (x_1 j : Nat) => PV.v ([Value.string (ByteArray.mk #[])].getD j undef)) a b else TR (litS x) (a - (0 : Nat)) b) []), ((7 : Nat), Ob.box [AV.own (12 : Nat), AV.own (1069 : Nat)]), ((1069 : Nat), Ob.row Mode.u false (1 : Nat) (17 : Nat) (RR (fun (x_1 : Nat) => (↑((0 : Nat) + x.length) : Int).toNat) fun (i j : Nat) => cellV n f (y.2 + (1 : Nat) + (4 : Nat) * (i * (↑((0 : Nat) + x.length) : Int).toNat) + (4 : Nat) * j)) [])]))) (VC.split (pickV n f y.2 (6 : Int) == (4 : Int)) (VC.need ((0 : Int) ≤ (↑((0 : Nat) + x.length) : Int) ∧ (↑((0 : Nat) + x.length) : Int) ≤ (↑((0 : Nat) + x.length) : Int) ∧ (↑(8 : Nat) : Int) * (↑((0 : Nat) + x.length) : Int) ≤ (281474976710656 : Int) ∧ (↑((0 : Nat) + x.length) : Int) ≤ (9223372036854775807 : Int)) (VC.need ((((litI [pickV n f (p + (2 : Nat)) (6 : Int), pickV n f (p + (2 : Nat) + (1 : Nat)) (6 : Int), (16 : Int)] (IntKind.i64.wrap ((pickV n f (p + (2 : Nat) + (1 : Nat) + (1 : Nat)) (12 : Int)).tdiv (5 : Int))).toNat).toNat + (1 : Nat)) * (24 : Nat) ≤ (140737488355328 : Nat) ∧ (↑((litI [pickV n f (p + (2 : Nat)) (6 : Int), pickV n f (p + (2 : Nat) + (1 : Nat)) (6 : Int), (16 : Int)] (IntKind.i64.wrap ((pickV n f (p + (2 : Nat) + (1 : Nat) + (1 : Nat)) (12 : Int)).tdiv (5 : Int))).toNat).toNat + (1 : Nat)) : Int) ≤ (9223372036854775807 : Int)) ∧ allOne (1 : Nat) (1 : Nat) (setG [((0 : Nat), (0 : Nat), PV.sl true (1 : Nat) (↑((0 : Nat) + x.length) : Int).toNat fun (x_1 j : Nat) => PV.v ([Value.int IntKind.i64 (0 : Int)].getD j undef))] fun (x_1 j : Nat) => PV.v ([Value.slice none (0 : Nat) (0 : Nat)].getD j undef))) (VC.stop [Item.ir ir86_C1, Item.bend (0 : Nat), Item.ir ir86_D1] (St.mk [((0 : Nat), AV.adr (100000 : Nat) (0 : Nat)), ((1 : Nat), AV.p true (PV.v (Value.int IntKind.i64 k))), ((2 : Nat), AV.p true (PV.v (Value.int IntKind.i64 m))), ((6 : Nat), AV.adr (6 : Nat) (0 : Nat)), ((7 : Nat), AV.adr (7 : Nat) (0 : Nat)), ((32 : Nat), AV.p true (PV.v (Value.bool y.1))), ((34 : Nat), AV.p true (PV.v (Value.int IntKind.i64 (pickV n f y.2 (6 : Int))))), ((37 : Nat), AV.p true (PV.v (Value.bool (pickV n f y.2 (6 : Int) == (0 : Int))))), ((44 : Nat), AV.p true (PV.v (Value.bool (pickV n f y.2 (6 : Int) == (1 : Int))))), ((55 : Nat), AV.p true (PV.v (Value.bool (pickV n f y.2 (6 : Int) == (2 : Int))))), ((63 : Nat), AV.p true (PV.v (Value.bool (pickV n f y.2 (6 : Int) == (3 : Int))))), ((71 : Nat), AV.p true (PV.v (Value.bool (pickV n f y.2 (6 : Int) == (4 : Int)))))] [((100000 : Nat), Ob.box [AV.p false (PV.sl nn (1 : Nat) n (PB f)), AV.p true (PV.v (Value.int IntKind.i64 (↑(y.2 + (1 : Nat)) : Int)))]), ((6 : Nat), Ob.box [AV.p true (PV.v (Value.slice none (0 : Nat) (0 : Nat))), AV.p true (PV.v (Value.slice none (0 : Nat) (0 : Nat)))]), ((12 : Nat), Ob.row Mode.u true (1 : Nat) ((0 : Nat) + x.length) (fun (a b : Nat) => if a < (0 : Nat) then setG [] (fun (x_1 j : Nat) => PV.v ([Value.string (ByteArray.mk #[])].getD j undef)) a b else TR (litS x) (a - (0 : Nat)) b) []), ((7 : Nat), Ob.box [AV.own (12 : Nat), AV.own (80 : Nat)]), ((80 : Nat), Ob.row Mode.u false (1 : Nat) ((litI [pickV n f (p + (2 : Nat)) (6 : Int), pickV n f (p + (2 : Nat) + (1 : Nat)) (6 : Int), (16 : Int)] (IntKind.i64.wrap ((pickV n f (p + (2 : Nat) + (1 : Nat) + (1 : Nat)) (12 : Int)).tdiv (5 : Int))).toNat).toNat + (1 : Nat)) (fun (a b : Nat) => if a < (litI [pickV n f (p + (2 : Nat)) (6 : Int), pickV n f (p + (2 : Nat) + (1 : Nat)) (6 : Int), (16 : Int)] (IntKind.i64.wrap ((pickV n f (p + (2 : Nat) + (1 : Nat) + (1 : Nat)) (12 : Int)).tdiv (5 : Int))).toNat).toNat then RR (fun (x_1 : Nat) => (↑((0 : Nat) + x.length) : Int).toNat) (fun (i j : Nat) => cellV n f (p + (2 : Nat) + (1 : Nat) + (1 : Nat) + (1 : Nat) + (4 : Nat) * (i * (↑((0 : Nat) + x.length) : Int).toNat) + (4 : Nat) * j)) a b else setG [((0 : Nat), (0 : Nat), PV.sl true (1 : Nat) (↑((0 : Nat) + x.length) : Int).toNat fun (x_1 j : Nat) => PV.v ([Value.int IntKind.i64 (0 : Int)].getD j undef))] (fun (x_1 j : Nat) => PV.v ([Value.slice none (0 : Nat) (0 : Nat)].getD j undef)) (a - (litI [pickV n f (p + (2 : Nat)) (6 : Int), pickV n f (p + (2 : Nat) + (1 : Nat)) (6 : Int), (16 : Int)] (IntKind.i64.wrap ((pickV n f (p + (2 : Nat) + (1 : Nat) + (1 : Nat)) (12 : Int)).tdiv (5 : Int))).toNat).toNat) b) [])])))) (VC.done (St.mk [((0 : Nat), AV.adr (100000 : Nat) (0 : Nat)), ((1 : Nat), AV.p true (PV.v (Value.int IntKind.i64 k))), ((2 : Nat), AV.p true (PV.v (Value.int IntKind.i64 m))), ((6 : Nat), AV.adr (6 : Nat) (0 : Nat)), ((7 : Nat), AV.adr (7 : Nat) (0 : Nat)), ((32 : Nat), AV.p true (PV.v (Value.bool y.1))), ((34 : Nat), AV.p true (PV.v (Value.int IntKind.i64 (pickV n f y.2 (6 : Int))))), ((37 : Nat), AV.p true (PV.v (Value.bool (pickV n f y.2 (6 : Int) == (0 : Int))))), ((44 : Nat), AV.p true (PV.v (Value.bool (pickV n f y.2 (6 : Int) == (1 : Int))))), ((55 : Nat), AV.p true (PV.v (Value.bool (pickV n f y.2 (6 : Int) == (2 : Int))))), ((63 : Nat), AV.p true (PV.v (Value.bool (pickV n f y.2 (6 : Int) == (3 : Int))))), ((71 : Nat), AV.p true (PV.v (Value.bool (pickV n f y.2 (6 : Int) == (4 : Int)))))] [((100000 : Nat), Ob.box [AV.p false (PV.sl nn (1 : Nat) n (PB f)), AV.p true (PV.v (Value.int IntKind.i64 (↑(y.2 + (1 : Nat)) : Int)))]), ((6 : Nat), Ob.box [AV.own (35 : Nat), AV.own (1028 : Nat)]), ((7 : Nat), Ob.box [AV.own (35 : Nat), AV.own (1028 : Nat)]), ((1028 : Nat), Ob.row Mode.u false (1 : Nat) (litI [pickV n f (p + (2 : Nat)) (6 : Int), pickV n f (p + (2 : Nat) + (1 : Nat)) (6 : Int), (16 : Int)] (IntKind.i64.wrap ((pickV n f (p + (2 : Nat) + (1 : Nat) + (1 : Nat)) (12 : Int)).tdiv (5 : Int))).toNat).toNat (RR (fun (x_1 : Nat) => (↑((0 : Nat) + x.length) : Int).toNat) fun (i j : Nat) => cellV n f (p + (2 : Nat) + (1 : Nat) + (1 : Nat) + (1 : Nat) + (4 : Nat) * (i * (↑((0 : Nat) + x.length) : Int).toNat) + (4 : Nat) * j)) []), ((35 : Nat), Ob.row Mode.u true (1 : Nat) (0 : Nat) (setG [] fun (x_1 j : Nat) => PV.v ([Value.string (ByteArray.mk #[])].getD j undef)) [])])))))))) (VC.done (St.mk [((0 : Nat), AV.adr (100000 : Nat) (0 : Nat)), ((1 : Nat), AV.p true (PV.v (Value.int IntKind.i64 k))), ((2 : Nat), AV.p true (PV.v (Value.int IntKind.i64 m))), ((6 : Nat), AV.adr (6 : Nat) (0 : Nat)), ((7 : Nat), AV.adr (7 : Nat) (0 : Nat)), ((32 : Nat), AV.p true (PV.v (Value.bool y.1)))] [((100000 : Nat), Ob.box [AV.p false (PV.sl nn (1 : Nat) n (PB f)), AV.p true (PV.v (Value.int IntKind.i64 (↑y.2 : Int)))]), ((6 : Nat), Ob.box [AV.own (12 : Nat), AV.own (1028 : Nat)]), ((12 : Nat), Ob.row Mode.u true (1 : Nat) ((0 : Nat) + x.length) (fun (a b : Nat) => if a < (0 : Nat) then setG [] (fun (x_1 j : Nat) => PV.v ([Value.string (ByteArray.mk #[])].getD j undef)) a b else TR (litS x) (a - (0 : Nat)) b) []), ((7 : Nat), Ob.box [AV.own (12 : Nat), AV.own (1028 : Nat)]), ((1028 : Nat), Ob.row Mode.u false (1 : Nat) (litI [pickV n f (p + (2 : Nat)) (6 : Int), pickV n f (p + (2 : Nat) + (1 : Nat)) (6 : Int), (16 : Int)] (IntKind.i64.wrap ((pickV n f (p + (2 : Nat) + (1 : Nat) + (1 : Nat)) (12 : Int)).tdiv (5 : Int))).toNat).toNat (RR (fun (x_1 : Nat) => (↑((0 : Nat) + x.length) : Int).toNat) fun (i j : Nat) => cellV n f (p + (2 : Nat) + (1 : Nat) + (1 : Nat) + (1 : Nat) + (4 : Nat) * (i * (↑((0 : Nat) + x.length) : Int).toNat) + (4 : Nat) * j)) [])])))))))))) := by intros; kernel_rfl
/-- A drawn table: names, rows, and where the reader stands. -/
structure DT where
  n : Nat
  f : Nat → ByteArray
  m : Nat
  w : Nat → Nat
  h : Nat → Nat → Int
  p : Nat
structure DtOk (p : Nat) (d : DT) : Prop where
  hn : d.n ≤ 4
  hf : ∀ i, i < d.n → (d.f i).size ≤ 9
  hm : d.m ≤ 17
  hw : ∀ i, i < d.m → d.w i ≤ 7
  hp : p ≤ d.p ∧ d.p ≤ p + 700
abbrev dtR (_ : DT) : AV := .ag [.own 1, .own 2]
abbrev dtH (nn : Bool) (n : Nat) (f : Nat → Int) (d : DT) : List (Nat × Ob) := [(0, RD nn n f d.p), (1, .row .u false 1 d.n (TR d.f) []), (2, .row .u false 1 d.m (RR d.w d.h) [])]
theorem tab_done {nn : Bool} {n : Nat} {f : Nat → Int} {p : Nat} {s : St} (d : DT) {q1 q2 : Nat} {b1 b2 : Bool} {F G : Nat → Nat → PV} (hq1 : q1 < 100000) (hq2 : q2 < 100000) (hq : q1 ≠ q2) (h0 : s.get 6 = .adr 6 0) (h1 : look s.H 6 = some (.box [.own q1, .own q2]))
    (h2 : look s.H 100000 = some (RD nn n f d.p)) (h3 : look s.H q1 = some (.row .u b1 1 d.n F [])) (h4 : ∀ i, i < d.n → PV.Le (F i 0) (TR d.f i 0)) (h5 : look s.H q2 = some (.row .u b2 1 d.m G [])) (h6 : ∀ i, i < d.m → PV.Le (G i 0) (RR d.w d.h i 0)) (ok : DtOk p d) :
    ResOk res86 [(0, RD nn n f p)] s (fun x h => ∃ y : DT, DtOk p y ∧ x = dtR y ∧ h = dtH nn n f y) := by
  refine ResOk.mk [] [(0, 100000), (1, q1), (2, q2)] [] (.ag [.own 1, .own 2]) (dtH nn n f d) ?_ ⟨d, ok, rfl, rfl⟩
  have e : s.lowers [] = s := rfl
  have e2 : ∀ i, s.obj i = look s.H i := fun _ => rfl
  have k1 : ((100000 : Nat) == q1) = false := by simp; omega
  have k2 : ((100000 : Nat) == q2) = false := by simp; omega
  have k3 : (q1 == q2) = false := by simp; omega
  simp [doneC, resOf, resAV, tup, pinR, hbs, e, e2, h0, h1, h2, h3, h5, leObs, obLe, injB, AV.leC, AV.leCs, PV.leC, PV.Le_v, look, rho, isNew, keptC, renH, Mode.ok, Mode.isZ, PV.isVal, PV.isNilSl, res86, hq, k1, k2, k3]
  exact ⟨⟨h4, h6⟩, ⟨by omega, by omega⟩, by omega⟩
def st_dTab (nn : Bool) (n : Nat) (f : Nat → Int) (p : Nat) (N : Nat) (F : Nat → ByteArray) (M : Nat) (w : Nat → Nat) (h : Nat → Nat → Int) : St := ⟨[(0, .adr 100000 0), (6, .adr 6 0), (7, .adr 7 0)], [(100000, RD nn n f p), (6, .box [.p true (.v (.slice none 0 0)), .p true (.v (.slice none 0 0))]), (12, .row .u true 1 N (TR F) []), (7, .box [.own 12, .own 80]), (80, .row .u false 1 M (RR w h) [])]⟩
theorem evr_dTab : ∀ (nn : Bool) (n : Nat) (f : Nat → Int) (p0 p N : Nat) (F : Nat → ByteArray) (M : Nat) (w : Nat → Nat) (h : Nat → Nat → Int), ev G0 res86 [((0 : Nat), RD nn n f p0)] (3000 : Nat) (Or.call [(100000 : Nat)] (AI (pickV n f p (2 : Int))) [((0 : Nat), RD nn n f (p + (1 : Nat)))] Or.nil) [Item.ir ir86_C1, Item.bend (0 : Nat), Item.ir ir86_D1] (st_dTab nn n f p N F M w h) = VC.need ((0 : Int) ≤ IntKind.i64.wrap ((↑M : Int) - (1 : Int)) ∧ (IntKind.i64.wrap ((↑M : Int) - (1 : Int))).toNat < M) (VC.need ((IntKind.i64.wrap ((↑M : Int) - (1 : Int))).toNat < M) (VC.call (87 : Nat) [AV.adr (0 : Nat) (0 : Nat), AV.p true (PV.v (Value.int IntKind.i64 (2 : Int)))] [((0 : Nat), Ob.box [AV.p false (PV.sl nn (1 : Nat) n (PB f)), AV.p true (PV.v (Value.int IntKind.i64 (↑p : Int)))])] (AI (pickV n f p (2 : Int))) [((0 : Nat), RD nn n f (p + (1 : Nat)))] (VC.need ((0 : Int) ≤ pickV n f p (2 : Int) ∧ (pickV n f p (2 : Int)).toNat < (2 : Nat)) (VC.need ((pickV n f p (2 : Int)).toNat < (2 : Nat)) (VC.need ((0 : Int) ≤ (0 : Int) ∧ Int.toNat (0 : Int) < w (IntKind.i64.wrap ((↑M : Int) - (1 : Int))).toNat) (VC.need ((0 : Nat) < w (IntKind.i64.wrap ((↑M : Int) - (1 : Int))).toNat) (VC.done (St.mk [((0 : Nat), AV.adr (100000 : Nat) (0 : Nat)), ((6 : Nat), AV.adr (6 : Nat) (0 : Nat)), ((7 : Nat), AV.adr (7 : Nat) (0 : Nat))] [((100000 : Nat), Ob.box [AV.p false (PV.sl nn (1 : Nat) n (PB f)), AV.p true (PV.v (Value.int IntKind.i64 (↑(p + (1 : Nat)) : Int)))]), ((6 : Nat), Ob.box [AV.own (12 : Nat), AV.own (80 : Nat)]), ((12 : Nat), Ob.row Mode.u true (1 : Nat) N (TR F) []), ((7 : Nat), Ob.box [AV.own (12 : Nat), AV.own (80 : Nat)]), ((80 : Nat), Ob.row Mode.u false (1 : Nat) M (cellSet (RR w h) (IntKind.i64.wrap ((↑M : Int) - (1 : Int))).toNat (nat_lit 0) (PV.sl false (1 : Nat) (w (IntKind.i64.wrap ((↑M : Int) - (1 : Int))).toNat) (setG [((0 : Nat), (0 : Nat), PV.v (Value.int IntKind.i64 (litI [(100001 : Int), (-100001 : Int)] (pickV n f p (2 : Int)).toNat)))] fun (j x : Nat) => PI (h (IntKind.i64.wrap ((↑M : Int) - (1 : Int))).toNat j)))) [])])))))))) := by intros; kernel_rfl
theorem TR_le {f g : Nat → ByteArray} {i : Nat} (h : f i = g i) : PV.Le (TR f i 0) (TR g i 0) := by simp only [TR, h]; exact .refl _
theorem TR_le' {x : ByteArray} {g : Nat → ByteArray} {i : Nat} (h : x = g i) : PV.Le (.v (.string x)) (TR g i 0) := by simp only [TR, h]; exact .refl _
theorem c_dTab (nn : Bool) (n : Nat) (f : Nat → Int) (p : Nat) (k m : Int) (hb : Bytes f) (hp : p ≤ 10000) (hk : 0 ≤ k ∧ k ≤ 2) : PSome Tryd.prog G0 86 [.adr 0 0, AI k, AI m] [(0, RD nn n f p)] DT (DtOk p) dtR (dtH nn n f) := by
  refine PCall.by chk86 rfl (ev_dTab nn n f p k m) ?_
  simp only [VC.holds_split, VC.holds_need, VC.holds_doneP, VC.holds_done, VC.holds_either, VC.holds_call, VC.holds_callE, VC.holds_lend, VC.holds_stop, VC.holds_fail, decide_eq_true_eq, decide_eq_false_iff_not, Nat.zero_add, Int.toNat_natCast]
  have r1 := pick_rng (n := n) (p := p + 2) (m := 6) hb (by omega) (by omega)
  have r2 := pick_rng (n := n) (p := p + 2 + 1) (m := 6) hb (by omega) (by omega)
  have r3 := pick_rng (n := n) (p := p + 2 + 1 + 1) (m := 12) hb (by omega) (by omega)
  have e1 : IntKind.i64.wrap ((pickV n f (p + 2 + 1 + 1) 12).tdiv 5) = pickV n f (p + 2 + 1 + 1) 12 / 5 := by
    rw [Int.tdiv_eq_ediv_of_nonneg r3.1]; exact wrap_in (by omega) (by omega)
  have r4 := litI_of (p := fun x => 0 ≤ x ∧ x ≤ 16) (l := [pickV n f (p + 2) 6, pickV n f (p + 2 + 1) 6, 16]) (i := (pickV n f (p + 2 + 1 + 1) 12 / 5).toNat) (by simp; omega) (by simp only [List.length_cons, List.length_nil]; omega)
  simp only [e1]
  generalize litI [pickV n f (p + 2) 6, pickV n f (p + 2 + 1) 6, 16] (pickV n f (p + 2 + 1 + 1) 12 / 5).toNat = M at *
  refine ⟨c_dNamesS nn n f p k hb (by omega) hk, fun x hx => ?_⟩
  obtain ⟨x1, x2, x3⟩ := hx
  have xs : ∀ i, (litS x i).size ≤ 5 := fun i => litS_of (φ := fun y => y.size ≤ 5) x3 (by decide) i
  generalize litS x = X at *
  generalize x.length = N at *
  obtain ⟨M, rfl⟩ : ∃ M' : Nat, M = M' := ⟨M.toNat, by omega⟩
  simp only [Int.toNat_natCast]
  have hMN : M * N ≤ 16 * 3 := Nat.mul_le_mul (by omega) (by omega)
  refine ⟨⟨⟨by omega, by omega⟩, allV_TR⟩, c_pick _ _ _ _ _ hb (by omega), c_pick _ _ _ _ _ hb (by omega), c_pick _ _ _ _ _ hb (by omega), by omega, ⟨by omega, by omega⟩, by omega, ?_⟩
  have drows : ∀ q : Nat, q ≤ 30000 → PObj Tryd.prog G0 147 [.adr 0 0, AI N, AI M] [(0, RD nn n f q)] (.own 1) [(0, RD nn n f (q + 4 * (M * N))), (1, .row .u false 1 M (RR (fun _ => N) fun i j => cellV n f (q + 4 * (i * N) + 4 * j)) [])] := fun q hq => c_dRows nn n f q N M hb (by omega) (by omega) (by omega)
  have dr17 : ∀ q : Nat, q ≤ 30000 → PObj Tryd.prog G0 147 [.adr 0 0, AI N, AI 17] [(0, RD nn n f q)] (.own 1) [(0, RD nn n f (q + 4 * (17 * N))), (1, .row .u false 1 17 (RR (fun _ => N) fun i j => cellV n f (q + 4 * (i * N) + 4 * j)) [])] := fun q hq => c_dRows nn n f q N 17 hb (by omega) (by omega) (by omega)
  generalize cellV n f = C at *
  refine ⟨drows _ (by omega), c_oddS _ _ _ _ _ hb (by omega), fun ⟨yb, yq⟩ hy => ?_⟩
  simp only [] at hy ⊢
  refine ⟨fun h1 => ⟨c_pick _ _ _ _ _ hb (by omega), fun h2 => ?_, fun h2 => ⟨fun h3 => ?_, fun h3 => ⟨fun h4 => ?_, fun h4 => ⟨fun h5 => ?_, fun h5 => ⟨fun h6 => ?_, fun h6 => ?_⟩⟩⟩⟩⟩, fun h1 => ?_⟩
  · have q1 := oddP_ge (yq + 1) 1
    have q2 := oddP_le (yq + 1) 1
    refine ⟨c_dName _ _ _ _ _ hb (by omega), ⟨by omega, by omega⟩, by omega, ?_⟩
    have z := nameV_size n f (yq + 1) 1
    generalize nameV n f (yq + 1) 1 = nv at *
    have q3 : yq + 1 ≤ oddP (yq + 1) 1 + 1 ∧ oddP (yq + 1) 1 + 1 ≤ yq + 3 := by omega
    generalize oddP (yq + 1) 1 + 1 = q at *
    refine tab_done ⟨N, fun i => if i = 0 then nv else X i, M, _, _, q⟩ (q1 := 12) (q2 := 1028) (by decide) (by decide) (by decide) rfl rfl rfl rfl (fun i hi => ?_) rfl (fun i hi => .refl _) ⟨by simp only []; omega, fun i hi => ?_, by simp only []; omega, fun i hi => by simp only []; omega, by simp only []; omega⟩
    · by_cases e : i = 0
      · subst e; simp [setG, cellSet]; exact .refl _
      · simp [setG, cellSet, e]; exact TR_le (by simp [e])
    · simp only []
      split
      · exact z
      · have := xs i; omega
  · refine ⟨⟨by omega, by omega⟩, by omega, ⟨⟨by omega, by omega⟩, ?_⟩, ?_⟩
    · intro i j hi hj
      obtain rfl : i = 0 := by omega
      obtain rfl : j = 0 := by omega
      rfl
    · refine tab_done ⟨N + 1, fun i => if i < N then X i else X 0, M, _, _, yq + 1⟩ (q1 := 53) (q2 := 1028) (by decide) (by decide) (by decide) rfl rfl rfl rfl (fun i hi => ?_) rfl (fun i hi => .refl _) ⟨by simp only []; omega, fun i hi => ?_, by simp only []; omega, fun i hi => by simp only []; omega, by simp only []; omega⟩
      · by_cases e : i < N
        · simp [e]; exact TR_le (by simp [e])
        · obtain rfl : i = N := by simp only [] at hi; omega
          simp [setG, cellSet]; exact TR_le' (by simp)
      · simp only []
        split
        · have := xs i; omega
        · have := xs 0; omega
  · refine ⟨⟨⟨by omega, by omega⟩, ?_⟩, ?_⟩
    · intro i j hi hj
      obtain rfl : i = 0 := by omega
      obtain rfl : j = 0 := by omega
      rfl
    · refine tab_done ⟨N, X, M + 1, fun i => if i < M then N else 7, fun i j => if i < M then C (p + 2 + 1 + 1 + 1 + 4 * (i * N) + 4 * j) else litI [1, 2, 3, 4, 5, 6, 7] j, yq + 1⟩ (q1 := 12) (q2 := 61) (by decide) (by decide) (by decide) rfl rfl rfl rfl (fun i hi => ?_) rfl (fun i hi => ?_) ⟨by simp only []; omega, fun i hi => ?_, by simp only []; omega, fun i hi => ?_, by simp only []; omega⟩
      · simp; exact .refl _
      · by_cases e : i < M
        · simp only [e, if_true]; exact RR_le (by simp only [e, if_true]) fun j hj => by simp only [e, if_true]
        · obtain rfl : i = M := by simp only [] at hi; omega
          simp [setG, cellSet]
          refine .sl _ _ (fun e => (by cases e)) 1 _ _ _ _ (by simp) fun j l hj hl => ?_
          simp; exact .refl _
      · have := xs i; simp only []; omega
      · simp only []; split <;> omega
  · refine ⟨dr17 _ (by omega), ?_⟩
    refine tab_done ⟨N, X, 17, fun _ => N, fun i j => C (yq + 1 + 4 * (i * N) + 4 * j), yq + 1 + 4 * (17 * N)⟩ (q1 := 12) (q2 := 1069) (by decide) (by decide) (by decide) rfl rfl rfl rfl (fun i hi => ?_) rfl (fun i hi => .refl _) ⟨by simp only []; omega, fun i hi => by have := xs i; simp only []; omega, by simp only []; omega, fun i hi => by simp only []; omega, by simp only []; omega⟩
    simp; exact .refl _
  · refine ⟨⟨by omega, by omega, by simp; omega, by omega⟩, ⟨⟨by omega, by omega⟩, ?_⟩, ?_⟩
    · intro i j hi hj
      obtain rfl : i = 0 := by omega
      obtain rfl : j = 0 := by omega
      rfl
    · have em : IntKind.i64.wrap (((M + 1 : Nat) : Int) - 1) = (M : Int) := (wrap_in (by omega) (by omega)).trans (by omega)
      let h' : Nat → Nat → Int := fun i j => if i < M then C (p + 2 + 1 + 1 + 1 + 4 * (i * N) + 4 * j) else 0
      refine Go.Gw.M.by [] [] [] ?_ (evr_dTab nn n f p (yq + 1) N X (M + 1) (fun _ => N) h') ?_
      · simp [st_dTab, hbs, St.lowers, St.lower, stLe, leEnv, leObs, obLe, injB, pinC, AV.leC, AV.leCs, PV.leC, PV.Le_v, St.get, St.obj, look, rho, isNew, keptC, renH, Mode.ok, Mode.isZ, PV.isVal, PV.isNilSl, List.all_nil, List.all_cons, List.any_nil, List.any_cons, List.map_nil, List.map_cons, PV.Le_self]
        intro i hi
        by_cases e : i < M
        · simp only [e, if_true]; exact RR_le rfl fun j hj => by simp only [h', e, if_true]
        · obtain rfl : i = M := by omega
          simp [setG, cellSet]
          refine .sl _ _ (fun e => (by cases e)) 1 _ _ _ _ rfl fun j l hj hl => ?_
          obtain rfl : l = 0 := by omega
          simp [h']; exact .refl _
      · simp only [VC.holds_split, VC.holds_need, VC.holds_doneP, VC.holds_done, VC.holds_either, VC.holds_call, VC.holds_callE, VC.holds_lend, VC.holds_stop, VC.holds_fail, decide_eq_true_eq, decide_eq_false_iff_not, em, Int.toNat_natCast]
        have r7 := pick_rng (n := n) (p := yq + 1) (m := 2) hb (by omega) (by omega)
        refine ⟨⟨by omega, by omega⟩, by omega, c_pick _ _ _ _ _ hb (by omega), ⟨by omega, by omega⟩, by omega, ⟨by omega, by omega⟩, by omega, ?_⟩
        generalize litI [100001, -100001] (pickV n f (yq + 1) 2).toNat = V at *
        refine tab_done ⟨N, X, M + 1, fun _ => N, fun i j => if i = M then (if j = 0 then V else h' i j) else h' i j, yq + 1 + 1⟩ (q1 := 12) (q2 := 80) (by decide) (by decide) (by decide) rfl rfl rfl rfl (fun i hi => .refl _) rfl (fun i hi => ?_) ⟨by simp only []; omega, fun i hi => by have := xs i; simp only []; omega, by simp only []; omega, fun i hi => by simp only []; omega, by simp only []; omega⟩
        by_cases e : i = M
        · subst e
          simp [cellSet]
          refine .sl _ _ (fun e => e) 1 _ _ _ _ rfl fun j l hj hl => ?_
          obtain rfl : l = 0 := by omega
          by_cases e2 : j = 0
          · subst e2; simp [setG, cellSet]; exact .refl _
          · simp [setG, cellSet, e2]; exact .refl _
        · simp [cellSet, e]; exact RR_le rfl fun j hj => by simp [e]
  · refine tab_done ⟨0, X, M, fun _ => N, fun i j => C (p + 2 + 1 + 1 + 1 + 4 * (i * N) + 4 * j), yq + 1⟩ (q1 := 35) (q2 := 1028) (by decide) (by decide) (by decide) rfl rfl rfl rfl (fun i hi => absurd hi (Nat.not_lt_zero _)) rfl (fun i hi => .refl _) ⟨by simp only []; omega, fun i hi => absurd hi (Nat.not_lt_zero _), by simp only []; omega, fun i hi => by simp only []; omega, by simp only []; omega⟩
  · refine tab_done ⟨N, X, M, fun _ => N, fun i j => C (p + 2 + 1 + 1 + 1 + 4 * (i * N) + 4 * j), yq⟩ (q1 := 12) (q2 := 1028) (by decide) (by decide) (by decide) rfl rfl rfl rfl (fun i hi => ?_) rfl (fun i hi => .refl _) ⟨by simp only []; omega, fun i hi => by have := xs i; simp only []; omega, by simp only []; omega, fun i hi => by simp only []; omega, by simp only []; omega⟩
    simp; exact .refl _
end Go.Gw
