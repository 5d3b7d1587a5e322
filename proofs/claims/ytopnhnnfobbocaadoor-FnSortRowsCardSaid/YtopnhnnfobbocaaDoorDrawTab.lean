/- Tables drawn; with no condition. -/
import Derived.Test.YtopnhnnfobbocaaDoorDraw
import Derived.Test.YtopnhnnfobbocaaDoorRowsI
import Derived.KernelRfl
namespace Go.Gw
open Go Go.Proofs
set_option linter.unusedSimpArgs false
set_option linter.unusedVariables false
set_option maxRecDepth 100000
def ir148 : Ir :=
  (.seq
  (.reg [] [o 4 (.mov (.const (.string ⟨#[]⟩)))])
  (.seq
  (.seq
  (.reg [5, 6] [o 5 (.mov (tt 0)),
    o 6 (.mov (tt 1)),
    o 7 (.call 106 [(tt 5), (tt 6)])])
  (.cond (tt 7)
   (.seq
   (.reg [8, 9, 10, 11, 12] [o 8 (.mkSl 1 7 [(.string ⟨#[]⟩)] [(0, (.const (.string ⟨#[]⟩))), (1, (.const (.string ⟨#[65]⟩))), (2, (.const (.string ⟨#[97, 49]⟩))), (3, (.const (.string ⟨#[115, 101, 108, 101, 99, 116]⟩))), (4, (.const (.string ⟨#[108, 105, 109, 105, 116]⟩))), (5, (.const (.string ⟨#[97, 98, 99, 100, 101, 102, 103, 104, 105]⟩))), (6, (.const (.string ⟨#[97, 32, 98]⟩)))]),
     o 9 (.mov (tt 0)),
     o 10 (.call 87 [(tt 9), (ci 7)]),
     o 11 (.idx 1 (tt 8) (tt 10)),
     o 12 (.load false 1 (tt 11)),
     o 4 (.mov (tt 12))])
   .ret)
   .skip))
  (.seq
  (.reg [13, 14, 15, 16, 17, 18, 19, 20] [o 13 (.mkSl 1 8 [(.string ⟨#[]⟩)] [(0, (.const (.string ⟨#[97]⟩))), (1, (.const (.string ⟨#[98]⟩))), (2, (.const (.string ⟨#[99]⟩))), (3, (.const (.string ⟨#[107, 101, 121]⟩))), (4, (.const (.string ⟨#[110, 97, 109, 101]⟩))), (5, (.const (.string ⟨#[118, 97, 108, 117, 101]⟩))), (6, (.const (.string ⟨#[116, 111, 116, 97, 108]⟩))), (7, (.const (.string ⟨#[99, 111, 117, 110, 116]⟩)))]),
    o 14 (.mkSl 1 10 [(.int .i64 0)] [(0, (ci 0)), (1, (ci 0)), (2, (ci 1)), (3, (ci 1)), (4, (ci 2)), (5, (ci 3)), (6, (ci 4)), (7, (ci 5)), (8, (ci 6)), (9, (ci 7))]),
    o 15 (.mov (tt 0)),
    o 16 (.call 87 [(tt 15), (ci 10)]),
    o 17 (.idx 1 (tt 14) (tt 16)),
    o 18 (.load false 1 (tt 17)),
    o 19 (.idx 1 (tt 13) (tt 18)),
    o 20 (.load false 1 (tt 19)),
    o 4 (.mov (tt 20))])
  .ret)))
def keep148 : List Nat := [0, 1, 4, 7]
def res148 : List RI := [.tmp 4]
theorem chk148 : chk Tryd.prog 148 2 keep148 = some (ir148, res148) := by kernel_rfl
def ir146 : Ir :=
  (.seq
  (.reg [] [o 4 (.mov (.const (.slice none 0 0)))])
  (.seq
  (.dreg [5, 6, 7, 8, 9, 10, 11, 12, 13, 14, 15, 16, 17, 18, 19, 20, 21, 22, 23, 24, 25, 26, 27] [0, 0, 0, 0, 0, 0, 63, 0, 0, 256, 896, 1920, 0, 0, 8960, 29440, 62208, 130944, 0, 524160, 1048448, 2097151, 4194303, 8388607] [(0, 5), (1, 6), (2, 7), (3, 8), (4, 9), (5, 10), (6, 11), (7, 12), (9, 1014), (9, 2014), (9, 3014), (9, 4014), (9, 5014), (9, 6014), (9, 7014), (9, 8014), (11, 1016), (12, 17), (14, 1019), (14, 2019), (14, 3019), (14, 4019), (14, 5019), (14, 6019), (14, 7019), (14, 8019), (16, 1021), (17, 22), (20, 1025), (22, 1027)] [o 5 (.mkSl 1 2 [(.string ⟨#[]⟩)] [(0, (.const (.string ⟨#[97]⟩))), (1, (.const (.string ⟨#[98]⟩)))]),
    o 6 (.mkSl 1 3 [(.string ⟨#[]⟩)] [(0, (.const (.string ⟨#[97]⟩))), (1, (.const (.string ⟨#[98]⟩))), (2, (.const (.string ⟨#[99]⟩)))]),
    o 7 (.mkSl 1 2 [(.string ⟨#[]⟩)] [(0, (.const (.string ⟨#[107, 101, 121]⟩))), (1, (.const (.string ⟨#[118, 97, 108, 117, 101]⟩)))]),
    o 8 (.mkSl 1 1 [(.string ⟨#[]⟩)] [(0, (.const (.string ⟨#[97]⟩)))]),
    o 9 (.mkSl 1 3 [(.string ⟨#[]⟩)] [(0, (.const (.string ⟨#[107, 101, 121]⟩))), (1, (.const (.string ⟨#[110, 97, 109, 101]⟩))), (2, (.const (.string ⟨#[118, 97, 108, 117, 101]⟩)))]),
    o 10 (.mkSl 1 2 [(.string ⟨#[]⟩)] [(0, (.const (.string ⟨#[98]⟩))), (1, (.const (.string ⟨#[107, 101, 121]⟩)))]),
    o 11 (.mkSl 1 6 [(.slice none 0 0)] [(0, (tt 5)), (1, (tt 6)), (2, (tt 7)), (3, (tt 8)), (4, (tt 9)), (5, (tt 10))]),
    o 12 (.mkSl 1 3 [(.int .i64 0)] [(0, (ci 0)), (1, (ci 1)), (2, (ci 3))]),
    o 13 (.mov (tt 0)),
    o 14 (.call 87 [(tt 13), (ci 3)]),
    o 15 (.idx 1 (tt 12) (tt 14)),
    o 16 (.load false 1 (tt 15)),
    o 17 (.mkSl 1 2 [(.int .i64 0)] [(0, (ci 2)), (1, (ci 4))]),
    o 18 (.mov (tt 0)),
    o 19 (.call 87 [(tt 18), (ci 2)]),
    o 20 (.idx 1 (tt 17) (tt 19)),
    o 21 (.load false 1 (tt 20)),
    o 22 (.mkSl 1 3 [(.int .i64 0)] [(0, (tt 16)), (1, (tt 21)), (2, (ci 5))]),
    o 23 (.mov (tt 1)),
    o 24 (.idx 1 (tt 22) (tt 23)),
    o 25 (.load false 1 (tt 24)),
    o 26 (.idx 1 (tt 11) (tt 25)),
    o 27 (.load false 1 (tt 26)),
    o 4 (.mov (tt 27))])
  .ret))
def keep146 : List Nat := [0, 1, 4]
def res146 : List RI := [.tmp 4]
theorem chk146 : chk Tryd.prog 146 2 keep146 = some (ir146, res146) := by kernel_rfl
def ir147_L1 : Ir :=
  (.seq
  (.seq
  (.reg [18, 19] [o 18 (.mov (tt 10)),
    o 19 (.mov (tt 1)),
    o 20 (.bin .lss (tt 18) (tt 19))])
  (.cond (tt 20)
   .skip
   (.exit 2)))
  (.seq
  (.block 3
   (.reg [23, 24, 25, 26, 27, 28, 29, 30, 31, 32, 33, 34, 35, 36, 37, 38, 39, 40] [o 23 (.mov (tt 9)),
     o 24 (.mov (tt 0)),
     o 25 (.call 87 [(tt 24), (ci 4)]),
     o 26 (.mov (tt 0)),
     o 27 (.call 87 [(tt 26), (ci 7)]),
     o 28 (.bin .sub (tt 27) (ci 3)),
     o 29 (.mov (tt 0)),
     o 30 (.call 87 [(tt 29), (ci 256)]),
     o 31 (.mkSl 1 3 [(.int .i64 0)] [(0, (tt 25)), (1, (tt 28)), (2, (tt 30))]),
     o 32 (.mkSl 1 5 [(.int .i64 0)] [(0, (ci 0)), (1, (ci 0)), (2, (ci 0)), (3, (ci 1)), (4, (ci 2))]),
     o 33 (.mov (tt 0)),
     o 34 (.call 87 [(tt 33), (ci 5)]),
     o 35 (.idx 1 (tt 32) (tt 34)),
     o 36 (.load false 1 (tt 35)),
     o 37 (.idx 1 (tt 31) (tt 36)),
     o 38 (.load false 1 (tt 37)),
     o 39 (.mkSl 1 1 [(.int .i64 0)] [(0, (tt 38))]),
     o 40 (.app 1 8 true (tt 23) (tt 39)),
     o 9 (.mov (tt 40))]))
  (.reg [21, 22] [o 21 (.mov (tt 10)),
    o 22 (.bin .add (tt 21) (ci 1)),
    o 10 (.mov (tt 22))])))
def ir147_T2 : Ir :=
  (.reg [41, 42, 43, 44] [o 41 (.mov (tt 7)),
    o 42 (.mov (tt 9)),
    o 43 (.mkSl 1 1 [(.slice none 0 0)] [(0, (tt 42))]),
    o 44 (.app 1 24 false (tt 41) (tt 43)),
    o 7 (.mov (tt 44))])
def ir147_T3 : Ir :=
  (.reg [15, 16] [o 15 (.mov (tt 8)),
    o 16 (.bin .add (tt 15) (ci 1)),
    o 8 (.mov (tt 16))])
def ir147_L4 : Ir :=
  (.seq
  (.seq
  (.reg [12, 13] [o 12 (.mov (tt 8)),
    o 13 (.mov (tt 2)),
    o 14 (.bin .lss (tt 12) (tt 13))])
  (.cond (tt 14)
   .skip
   (.exit 0)))
  (.seq
  (.block 1
   (.seq
   (.reg [17] [o 17 (.mkSl 1 0 [(.int .i64 0)] []),
     o 9 (.mov (tt 17))])
   (.seq
   (.seq
   (.reg [] [o 10 (.mov (ci 0))])
   (.block 2
    (.loop ir147_L1)))
   ir147_T2)))
  ir147_T3))
def ir147_T5 : Ir :=
  (.seq
  (.reg [45] [o 45 (.mov (tt 7)),
    o 6 (.mov (tt 45))])
  .ret)
def ir147 : Ir :=
  (.seq
  (.reg [] [o 6 (.mov (.const (.slice none 0 0)))])
  (.seq
  (.reg [11] [o 11 (.mkSl 1 0 [(.slice none 0 0)] []),
    o 7 (.mov (tt 11))])
  (.seq
  (.seq
  (.reg [] [o 8 (.mov (ci 0))])
  (.block 0
   (.loop ir147_L4)))
  ir147_T5)))
def keep147 : List Nat := [0, 1, 2, 6, 7, 8, 9, 10, 14, 20]
def res147 : List RI := [.tmp 6]
theorem chk147 : chk Tryd.prog 147 3 keep147 = some (ir147, res147) := by kernel_rfl

def in_dName (nn : Bool) (n : Nat) (f : Nat → Int) (p : Nat) (m : Int) := (G0, res148, [(0, RD nn n f p)], [Item.ir ir148], start [.adr 0 0, AI m] [(0, RD nn n f p)])
theorem ev_dName : ∀ (nn : Bool) (n : Nat) (f : Nat → Int) (p : Nat) (m : Int),
  ev G0 res148 [((0 : Nat), RD nn n f p)] (3000 : Nat)
      (Or.call [(100000 : Nat)] (AB (oddV n f p m)) [((0 : Nat), RD nn n f (oddP p m))]
        ((Or.call [(100000 : Nat)] (AI (pickV n f (oddP p m) (7 : Int))) [((0 : Nat), RD nn n f (oddP p m + (1 : Nat)))]
              Or.nil).split
          (Or.call [(100000 : Nat)] (AI (pickV n f (oddP p m) (10 : Int)))
            [((0 : Nat), RD nn n f (oddP p m + (1 : Nat)))] Or.nil)))
      [Item.ir ir148] (start [AV.adr (0 : Nat) (0 : Nat), AI m] [((0 : Nat), RD nn n f p)]) =
    VC.call (106 : Nat) [AV.adr (0 : Nat) (0 : Nat), AV.p true (PV.v (Value.int IntKind.i64 m))]
      [((0 : Nat),
          Ob.box [AV.p false (PV.sl nn (1 : Nat) n (PB f)), AV.p true (PV.v (Value.int IntKind.i64 (↑p : Int)))])]
      (AB (oddV n f p m)) [((0 : Nat), RD nn n f (oddP p m))]
      (VC.split (oddV n f p m)
        (VC.call (87 : Nat) [AV.adr (0 : Nat) (0 : Nat), AV.p true (PV.v (Value.int IntKind.i64 (7 : Int)))]
          [((0 : Nat),
              Ob.box
                [AV.p false (PV.sl nn (1 : Nat) n (PB f)),
                  AV.p true (PV.v (Value.int IntKind.i64 (↑(oddP p m) : Int)))])]
          (AI (pickV n f (oddP p m) (7 : Int))) [((0 : Nat), RD nn n f (oddP p m + (1 : Nat)))]
          (VC.need ((0 : Int) ≤ pickV n f (oddP p m) (7 : Int) ∧ (pickV n f (oddP p m) (7 : Int)).toNat < (7 : Nat))
            (VC.need ((pickV n f (oddP p m) (7 : Int)).toNat < (7 : Nat))
              (VC.done
                (St.mk
                  [((0 : Nat), AV.adr (100000 : Nat) (0 : Nat)),
                    ((1 : Nat), AV.p true (PV.v (Value.int IntKind.i64 m))),
                    ((4 : Nat),
                      AV.p true
                        (PV.v
                          (Value.string
                            (litS
                              [ByteArray.mk #[], ByteArray.mk #[(65 : UInt8)],
                                ByteArray.mk #[(97 : UInt8), (49 : UInt8)],
                                ByteArray.mk
                                  #[(115 : UInt8), (101 : UInt8), (108 : UInt8), (101 : UInt8), (99 : UInt8),
                                    (116 : UInt8)],
                                ByteArray.mk
                                  #[(108 : UInt8), (105 : UInt8), (109 : UInt8), (105 : UInt8), (116 : UInt8)],
                                ByteArray.mk
                                  #[(97 : UInt8), (98 : UInt8), (99 : UInt8), (100 : UInt8), (101 : UInt8),
                                    (102 : UInt8), (103 : UInt8), (104 : UInt8), (105 : UInt8)],
                                ByteArray.mk #[(97 : UInt8), (32 : UInt8), (98 : UInt8)]]
                              (pickV n f (oddP p m) (7 : Int)).toNat)))),
                    ((7 : Nat), AV.p true (PV.v (Value.bool (oddV n f p m))))]
                  [((100000 : Nat),
                      Ob.box
                        [AV.p false (PV.sl nn (1 : Nat) n (PB f)),
                          AV.p true (PV.v (Value.int IntKind.i64 (↑(oddP p m + (1 : Nat)) : Int)))])])))))
        (VC.call (87 : Nat) [AV.adr (0 : Nat) (0 : Nat), AV.p true (PV.v (Value.int IntKind.i64 (10 : Int)))]
          [((0 : Nat),
              Ob.box
                [AV.p false (PV.sl nn (1 : Nat) n (PB f)),
                  AV.p true (PV.v (Value.int IntKind.i64 (↑(oddP p m) : Int)))])]
          (AI (pickV n f (oddP p m) (10 : Int))) [((0 : Nat), RD nn n f (oddP p m + (1 : Nat)))]
          (VC.need ((0 : Int) ≤ pickV n f (oddP p m) (10 : Int) ∧ (pickV n f (oddP p m) (10 : Int)).toNat < (10 : Nat))
            (VC.need ((pickV n f (oddP p m) (10 : Int)).toNat < (10 : Nat))
              (VC.need
                ((0 : Int) ≤
                    litI
                      [(0 : Int), (0 : Int), (1 : Int), (1 : Int), (2 : Int), (3 : Int), (4 : Int), (5 : Int),
                        (6 : Int), (7 : Int)]
                      (pickV n f (oddP p m) (10 : Int)).toNat ∧
                  (litI
                        [(0 : Int), (0 : Int), (1 : Int), (1 : Int), (2 : Int), (3 : Int), (4 : Int), (5 : Int),
                          (6 : Int), (7 : Int)]
                        (pickV n f (oddP p m) (10 : Int)).toNat).toNat <
                    (8 : Nat))
                (VC.need
                  ((litI
                        [(0 : Int), (0 : Int), (1 : Int), (1 : Int), (2 : Int), (3 : Int), (4 : Int), (5 : Int),
                          (6 : Int), (7 : Int)]
                        (pickV n f (oddP p m) (10 : Int)).toNat).toNat <
                    (8 : Nat))
                  (VC.done
                    (St.mk
                      [((0 : Nat), AV.adr (100000 : Nat) (0 : Nat)),
                        ((1 : Nat), AV.p true (PV.v (Value.int IntKind.i64 m))),
                        ((4 : Nat),
                          AV.p true
                            (PV.v
                              (Value.string
                                (litS
                                  [ByteArray.mk #[(97 : UInt8)], ByteArray.mk #[(98 : UInt8)],
                                    ByteArray.mk #[(99 : UInt8)],
                                    ByteArray.mk #[(107 : UInt8), (101 : UInt8), (121 : UInt8)],
                                    ByteArray.mk #[(110 : UInt8), (97 : UInt8), (109 : UInt8), (101 : UInt8)],
                                    ByteArray.mk
                                      #[(118 : UInt8), (97 : UInt8), (108 : UInt8), (117 : UInt8), (101 : UInt8)],
                                    ByteArray.mk
                                      #[(116 : UInt8), (111 : UInt8), (116 : UInt8), (97 : UInt8), (108 : UInt8)],
                                    ByteArray.mk
                                      #[(99 : UInt8), (111 : UInt8), (117 : UInt8), (110 : UInt8), (116 : UInt8)]]
                                  (litI
                                      [(0 : Int), (0 : Int), (1 : Int), (1 : Int), (2 : Int), (3 : Int), (4 : Int),
                                        (5 : Int), (6 : Int), (7 : Int)]
                                      (pickV n f (oddP p m) (10 : Int)).toNat).toNat)))),
                        ((7 : Nat), AV.p true (PV.v (Value.bool (oddV n f p m))))]
                      [((100000 : Nat),
                          Ob.box
                            [AV.p false (PV.sl nn (1 : Nat) n (PB f)),
                              AV.p true (PV.v (Value.int IntKind.i64 (↑(oddP p m + (1 : Nat)) : Int)))])])))))))) := by
  intros; kernel_rfl
theorem c_pk3_0 (nn : Bool) (n : Nat) (f : Nat → Int) (p : Nat) (hb : Bytes f) (hp : p ≤ 1000000000) (h : pickV n f p 3 = 0) : PObj Tryd.prog G0 87 [.adr 0 0, AI 3] [(0, RD nn n f p)] (AI 0) [(0, RD nn n f (p + 1))] := by
  have := c_pick nn n f p 3 hb hp
  rwa [h] at this
theorem c_pk3_1 (nn : Bool) (n : Nat) (f : Nat → Int) (p : Nat) (hb : Bytes f) (hp : p ≤ 1000000000) (h : pickV n f p 3 = 1) : PObj Tryd.prog G0 87 [.adr 0 0, AI 3] [(0, RD nn n f p)] (AI 1) [(0, RD nn n f (p + 1))] := by
  have := c_pick nn n f p 3 hb hp
  rwa [h] at this
theorem c_pk3_2 (nn : Bool) (n : Nat) (f : Nat → Int) (p : Nat) (hb : Bytes f) (hp : p ≤ 1000000000) (h : pickV n f p 3 = 2) : PObj Tryd.prog G0 87 [.adr 0 0, AI 3] [(0, RD nn n f p)] (AI 2) [(0, RD nn n f (p + 1))] := by
  have := c_pick nn n f p 3 hb hp
  rwa [h] at this
theorem c_pk2_0 (nn : Bool) (n : Nat) (f : Nat → Int) (p : Nat) (hb : Bytes f) (hp : p ≤ 1000000000) (h : pickV n f p 2 = 0) : PObj Tryd.prog G0 87 [.adr 0 0, AI 2] [(0, RD nn n f p)] (AI 0) [(0, RD nn n f (p + 1))] := by
  have := c_pick nn n f p 2 hb hp
  rwa [h] at this
theorem c_pk2_1 (nn : Bool) (n : Nat) (f : Nat → Int) (p : Nat) (hb : Bytes f) (hp : p ≤ 1000000000) (h : pickV n f p 2 = 1) : PObj Tryd.prog G0 87 [.adr 0 0, AI 2] [(0, RD nn n f p)] (AI 1) [(0, RD nn n f (p + 1))] := by
  have := c_pick nn n f p 2 hb hp
  rwa [h] at this
def in_dNames0 (nn : Bool) (n : Nat) (f : Nat → Int) (p : Nat) := (G0, res146, [(0, RD nn n f p)], [Item.ir ir146], start [.adr 0 0, AI 0] [(0, RD nn n f p)])
theorem ev_dNames_000 : ∀ (nn : Bool) (n : Nat) (f : Nat → Int) (p : Nat),
  ev G0 res146 [((0 : Nat), RD nn n f p)] (3000 : Nat)
      (Or.call [(100000 : Nat)] (AI (0 : Int)) [((0 : Nat), RD nn n f (p + (1 : Nat)))]
        (Or.call [(100000 : Nat)] (AI (0 : Int)) [((0 : Nat), RD nn n f (p + (1 : Nat) + (1 : Nat)))] Or.nil))
      [Item.ir ir146] (start [AV.adr (0 : Nat) (0 : Nat), AI (0 : Int)] [((0 : Nat), RD nn n f p)]) =
    VC.call (87 : Nat) [AV.adr (0 : Nat) (0 : Nat), AV.p true (PV.v (Value.int IntKind.i64 (3 : Int)))]
      [((0 : Nat),
          Ob.box [AV.p false (PV.sl nn (1 : Nat) n (PB f)), AV.p true (PV.v (Value.int IntKind.i64 (↑p : Int)))])]
      (AI (0 : Int)) [((0 : Nat), RD nn n f (p + (1 : Nat)))]
      (VC.need ((0 : Int) ≤ (0 : Int) ∧ Int.toNat (0 : Int) < (3 : Nat))
        (VC.need ((0 : Nat) < (3 : Nat))
          (VC.call (87 : Nat) [AV.adr (0 : Nat) (0 : Nat), AV.p true (PV.v (Value.int IntKind.i64 (2 : Int)))]
            [((0 : Nat),
                Ob.box
                  [AV.p false (PV.sl nn (1 : Nat) n (PB f)),
                    AV.p true (PV.v (Value.int IntKind.i64 (↑(p + (1 : Nat)) : Int)))])]
            (AI (0 : Int)) [((0 : Nat), RD nn n f (p + (1 : Nat) + (1 : Nat)))]
            (VC.need ((0 : Int) ≤ (0 : Int) ∧ Int.toNat (0 : Int) < (2 : Nat))
              (VC.need ((0 : Nat) < (2 : Nat))
                (VC.need ((0 : Int) ≤ (0 : Int) ∧ Int.toNat (0 : Int) < (3 : Nat))
                  (VC.need ((0 : Nat) < (3 : Nat))
                    (VC.need
                      ((0 : Int) ≤
                          litI
                            [litI [(0 : Int), (1 : Int), (3 : Int)] (0 : Nat), litI [(2 : Int), (4 : Int)] (0 : Nat),
                              (5 : Int)]
                            (0 : Nat) ∧
                        (litI
                              [litI [(0 : Int), (1 : Int), (3 : Int)] (0 : Nat), litI [(2 : Int), (4 : Int)] (0 : Nat),
                                (5 : Int)]
                              (0 : Nat)).toNat <
                          (6 : Nat))
                      (VC.need ((0 : Nat) < (6 : Nat))
                        (VC.done
                          (St.mk
                            [((0 : Nat), AV.adr (100000 : Nat) (0 : Nat)),
                              ((1 : Nat), AV.p true (PV.v (Value.int IntKind.i64 (0 : Int)))),
                              ((4 : Nat), AV.own (1027 : Nat))]
                            [((100000 : Nat),
                                Ob.box
                                  [AV.p false (PV.sl nn (1 : Nat) n (PB f)),
                                    AV.p true (PV.v (Value.int IntKind.i64 (↑(p + (1 : Nat) + (1 : Nat)) : Int)))]),
                              ((1027 : Nat),
                                Ob.row Mode.u true (1 : Nat) (2 : Nat)
                                  (fun (i x : Nat) =>
                                    PV.v
                                      (Value.string
                                        (litS [ByteArray.mk #[(97 : UInt8)], ByteArray.mk #[(98 : UInt8)]] i)))
                                  [])]))))))))))) := by
  intros; kernel_rfl
theorem ev_dNames_001 : ∀ (nn : Bool) (n : Nat) (f : Nat → Int) (p : Nat),
  ev G0 res146 [((0 : Nat), RD nn n f p)] (3000 : Nat)
      (Or.call [(100000 : Nat)] (AI (0 : Int)) [((0 : Nat), RD nn n f (p + (1 : Nat)))]
        (Or.call [(100000 : Nat)] (AI (1 : Int)) [((0 : Nat), RD nn n f (p + (1 : Nat) + (1 : Nat)))] Or.nil))
      [Item.ir ir146] (start [AV.adr (0 : Nat) (0 : Nat), AI (0 : Int)] [((0 : Nat), RD nn n f p)]) =
    VC.call (87 : Nat) [AV.adr (0 : Nat) (0 : Nat), AV.p true (PV.v (Value.int IntKind.i64 (3 : Int)))]
      [((0 : Nat),
          Ob.box [AV.p false (PV.sl nn (1 : Nat) n (PB f)), AV.p true (PV.v (Value.int IntKind.i64 (↑p : Int)))])]
      (AI (0 : Int)) [((0 : Nat), RD nn n f (p + (1 : Nat)))]
      (VC.need ((0 : Int) ≤ (0 : Int) ∧ Int.toNat (0 : Int) < (3 : Nat))
        (VC.need ((0 : Nat) < (3 : Nat))
          (VC.call (87 : Nat) [AV.adr (0 : Nat) (0 : Nat), AV.p true (PV.v (Value.int IntKind.i64 (2 : Int)))]
            [((0 : Nat),
                Ob.box
                  [AV.p false (PV.sl nn (1 : Nat) n (PB f)),
                    AV.p true (PV.v (Value.int IntKind.i64 (↑(p + (1 : Nat)) : Int)))])]
            (AI (1 : Int)) [((0 : Nat), RD nn n f (p + (1 : Nat) + (1 : Nat)))]
            (VC.need ((0 : Int) ≤ (1 : Int) ∧ Int.toNat (1 : Int) < (2 : Nat))
              (VC.need ((1 : Nat) < (2 : Nat))
                (VC.need ((0 : Int) ≤ (0 : Int) ∧ Int.toNat (0 : Int) < (3 : Nat))
                  (VC.need ((0 : Nat) < (3 : Nat))
                    (VC.need
                      ((0 : Int) ≤
                          litI
                            [litI [(0 : Int), (1 : Int), (3 : Int)] (0 : Nat), litI [(2 : Int), (4 : Int)] (1 : Nat),
                              (5 : Int)]
                            (0 : Nat) ∧
                        (litI
                              [litI [(0 : Int), (1 : Int), (3 : Int)] (0 : Nat), litI [(2 : Int), (4 : Int)] (1 : Nat),
                                (5 : Int)]
                              (0 : Nat)).toNat <
                          (6 : Nat))
                      (VC.need ((0 : Nat) < (6 : Nat))
                        (VC.done
                          (St.mk
                            [((0 : Nat), AV.adr (100000 : Nat) (0 : Nat)),
                              ((1 : Nat), AV.p true (PV.v (Value.int IntKind.i64 (0 : Int)))),
                              ((4 : Nat), AV.own (1027 : Nat))]
                            [((100000 : Nat),
                                Ob.box
                                  [AV.p false (PV.sl nn (1 : Nat) n (PB f)),
                                    AV.p true (PV.v (Value.int IntKind.i64 (↑(p + (1 : Nat) + (1 : Nat)) : Int)))]),
                              ((1027 : Nat),
                                Ob.row Mode.u true (1 : Nat) (2 : Nat)
                                  (fun (i x : Nat) =>
                                    PV.v
                                      (Value.string
                                        (litS [ByteArray.mk #[(97 : UInt8)], ByteArray.mk #[(98 : UInt8)]] i)))
                                  [])]))))))))))) := by
  intros; kernel_rfl
theorem ev_dNames_010 : ∀ (nn : Bool) (n : Nat) (f : Nat → Int) (p : Nat),
  ev G0 res146 [((0 : Nat), RD nn n f p)] (3000 : Nat)
      (Or.call [(100000 : Nat)] (AI (1 : Int)) [((0 : Nat), RD nn n f (p + (1 : Nat)))]
        (Or.call [(100000 : Nat)] (AI (0 : Int)) [((0 : Nat), RD nn n f (p + (1 : Nat) + (1 : Nat)))] Or.nil))
      [Item.ir ir146] (start [AV.adr (0 : Nat) (0 : Nat), AI (0 : Int)] [((0 : Nat), RD nn n f p)]) =
    VC.call (87 : Nat) [AV.adr (0 : Nat) (0 : Nat), AV.p true (PV.v (Value.int IntKind.i64 (3 : Int)))]
      [((0 : Nat),
          Ob.box [AV.p false (PV.sl nn (1 : Nat) n (PB f)), AV.p true (PV.v (Value.int IntKind.i64 (↑p : Int)))])]
      (AI (1 : Int)) [((0 : Nat), RD nn n f (p + (1 : Nat)))]
      (VC.need ((0 : Int) ≤ (1 : Int) ∧ Int.toNat (1 : Int) < (3 : Nat))
        (VC.need ((1 : Nat) < (3 : Nat))
          (VC.call (87 : Nat) [AV.adr (0 : Nat) (0 : Nat), AV.p true (PV.v (Value.int IntKind.i64 (2 : Int)))]
            [((0 : Nat),
                Ob.box
                  [AV.p false (PV.sl nn (1 : Nat) n (PB f)),
                    AV.p true (PV.v (Value.int IntKind.i64 (↑(p + (1 : Nat)) : Int)))])]
            (AI (0 : Int)) [((0 : Nat), RD nn n f (p + (1 : Nat) + (1 : Nat)))]
            (VC.need ((0 : Int) ≤ (0 : Int) ∧ Int.toNat (0 : Int) < (2 : Nat))
              (VC.need ((0 : Nat) < (2 : Nat))
                (VC.need ((0 : Int) ≤ (0 : Int) ∧ Int.toNat (0 : Int) < (3 : Nat))
                  (VC.need ((0 : Nat) < (3 : Nat))
                    (VC.need
                      ((0 : Int) ≤
                          litI
                            [litI [(0 : Int), (1 : Int), (3 : Int)] (1 : Nat), litI [(2 : Int), (4 : Int)] (0 : Nat),
                              (5 : Int)]
                            (0 : Nat) ∧
                        (litI
                              [litI [(0 : Int), (1 : Int), (3 : Int)] (1 : Nat), litI [(2 : Int), (4 : Int)] (0 : Nat),
                                (5 : Int)]
                              (0 : Nat)).toNat <
                          (6 : Nat))
                      (VC.need ((1 : Nat) < (6 : Nat))
                        (VC.done
                          (St.mk
                            [((0 : Nat), AV.adr (100000 : Nat) (0 : Nat)),
                              ((1 : Nat), AV.p true (PV.v (Value.int IntKind.i64 (0 : Int)))),
                              ((4 : Nat), AV.own (1027 : Nat))]
                            [((100000 : Nat),
                                Ob.box
                                  [AV.p false (PV.sl nn (1 : Nat) n (PB f)),
                                    AV.p true (PV.v (Value.int IntKind.i64 (↑(p + (1 : Nat) + (1 : Nat)) : Int)))]),
                              ((1027 : Nat),
                                Ob.row Mode.u true (1 : Nat) (3 : Nat)
                                  (fun (i x : Nat) =>
                                    PV.v
                                      (Value.string
                                        (litS
                                          [ByteArray.mk #[(97 : UInt8)], ByteArray.mk #[(98 : UInt8)],
                                            ByteArray.mk #[(99 : UInt8)]]
                                          i)))
                                  [])]))))))))))) := by
  intros; kernel_rfl
theorem ev_dNames_011 : ∀ (nn : Bool) (n : Nat) (f : Nat → Int) (p : Nat),
  ev G0 res146 [((0 : Nat), RD nn n f p)] (3000 : Nat)
      (Or.call [(100000 : Nat)] (AI (1 : Int)) [((0 : Nat), RD nn n f (p + (1 : Nat)))]
        (Or.call [(100000 : Nat)] (AI (1 : Int)) [((0 : Nat), RD nn n f (p + (1 : Nat) + (1 : Nat)))] Or.nil))
      [Item.ir ir146] (start [AV.adr (0 : Nat) (0 : Nat), AI (0 : Int)] [((0 : Nat), RD nn n f p)]) =
    VC.call (87 : Nat) [AV.adr (0 : Nat) (0 : Nat), AV.p true (PV.v (Value.int IntKind.i64 (3 : Int)))]
      [((0 : Nat),
          Ob.box [AV.p false (PV.sl nn (1 : Nat) n (PB f)), AV.p true (PV.v (Value.int IntKind.i64 (↑p : Int)))])]
      (AI (1 : Int)) [((0 : Nat), RD nn n f (p + (1 : Nat)))]
      (VC.need ((0 : Int) ≤ (1 : Int) ∧ Int.toNat (1 : Int) < (3 : Nat))
        (VC.need ((1 : Nat) < (3 : Nat))
          (VC.call (87 : Nat) [AV.adr (0 : Nat) (0 : Nat), AV.p true (PV.v (Value.int IntKind.i64 (2 : Int)))]
            [((0 : Nat),
                Ob.box
                  [AV.p false (PV.sl nn (1 : Nat) n (PB f)),
                    AV.p true (PV.v (Value.int IntKind.i64 (↑(p + (1 : Nat)) : Int)))])]
            (AI (1 : Int)) [((0 : Nat), RD nn n f (p + (1 : Nat) + (1 : Nat)))]
            (VC.need ((0 : Int) ≤ (1 : Int) ∧ Int.toNat (1 : Int) < (2 : Nat))
              (VC.need ((1 : Nat) < (2 : Nat))
                (VC.need ((0 : Int) ≤ (0 : Int) ∧ Int.toNat (0 : Int) < (3 : Nat))
                  (VC.need ((0 : Nat) < (3 : Nat))
                    (VC.need
                      ((0 : Int) ≤
                          litI
                            [litI [(0 : Int), (1 : Int), (3 : Int)] (1 : Nat), litI [(2 : Int), (4 : Int)] (1 : Nat),
                              (5 : Int)]
                            (0 : Nat) ∧
                        (litI
                              [litI [(0 : Int), (1 : Int), (3 : Int)] (1 : Nat), litI [(2 : Int), (4 : Int)] (1 : Nat),
                                (5 : Int)]
                              (0 : Nat)).toNat <
                          (6 : Nat))
                      (VC.need ((1 : Nat) < (6 : Nat))
                        (VC.done
                          (St.mk
                            [((0 : Nat), AV.adr (100000 : Nat) (0 : Nat)),
                              ((1 : Nat), AV.p true (PV.v (Value.int IntKind.i64 (0 : Int)))),
                              ((4 : Nat), AV.own (1027 : Nat))]
                            [((100000 : Nat),
                                Ob.box
                                  [AV.p false (PV.sl nn (1 : Nat) n (PB f)),
                                    AV.p true (PV.v (Value.int IntKind.i64 (↑(p + (1 : Nat) + (1 : Nat)) : Int)))]),
                              ((1027 : Nat),
                                Ob.row Mode.u true (1 : Nat) (3 : Nat)
                                  (fun (i x : Nat) =>
                                    PV.v
                                      (Value.string
                                        (litS
                                          [ByteArray.mk #[(97 : UInt8)], ByteArray.mk #[(98 : UInt8)],
                                            ByteArray.mk #[(99 : UInt8)]]
                                          i)))
                                  [])]))))))))))) := by
  intros; kernel_rfl
theorem ev_dNames_020 : ∀ (nn : Bool) (n : Nat) (f : Nat → Int) (p : Nat),
  ev G0 res146 [((0 : Nat), RD nn n f p)] (3000 : Nat)
      (Or.call [(100000 : Nat)] (AI (2 : Int)) [((0 : Nat), RD nn n f (p + (1 : Nat)))]
        (Or.call [(100000 : Nat)] (AI (0 : Int)) [((0 : Nat), RD nn n f (p + (1 : Nat) + (1 : Nat)))] Or.nil))
      [Item.ir ir146] (start [AV.adr (0 : Nat) (0 : Nat), AI (0 : Int)] [((0 : Nat), RD nn n f p)]) =
    VC.call (87 : Nat) [AV.adr (0 : Nat) (0 : Nat), AV.p true (PV.v (Value.int IntKind.i64 (3 : Int)))]
      [((0 : Nat),
          Ob.box [AV.p false (PV.sl nn (1 : Nat) n (PB f)), AV.p true (PV.v (Value.int IntKind.i64 (↑p : Int)))])]
      (AI (2 : Int)) [((0 : Nat), RD nn n f (p + (1 : Nat)))]
      (VC.need ((0 : Int) ≤ (2 : Int) ∧ Int.toNat (2 : Int) < (3 : Nat))
        (VC.need ((2 : Nat) < (3 : Nat))
          (VC.call (87 : Nat) [AV.adr (0 : Nat) (0 : Nat), AV.p true (PV.v (Value.int IntKind.i64 (2 : Int)))]
            [((0 : Nat),
                Ob.box
                  [AV.p false (PV.sl nn (1 : Nat) n (PB f)),
                    AV.p true (PV.v (Value.int IntKind.i64 (↑(p + (1 : Nat)) : Int)))])]
            (AI (0 : Int)) [((0 : Nat), RD nn n f (p + (1 : Nat) + (1 : Nat)))]
            (VC.need ((0 : Int) ≤ (0 : Int) ∧ Int.toNat (0 : Int) < (2 : Nat))
              (VC.need ((0 : Nat) < (2 : Nat))
                (VC.need ((0 : Int) ≤ (0 : Int) ∧ Int.toNat (0 : Int) < (3 : Nat))
                  (VC.need ((0 : Nat) < (3 : Nat))
                    (VC.need
                      ((0 : Int) ≤
                          litI
                            [litI [(0 : Int), (1 : Int), (3 : Int)] (2 : Nat), litI [(2 : Int), (4 : Int)] (0 : Nat),
                              (5 : Int)]
                            (0 : Nat) ∧
                        (litI
                              [litI [(0 : Int), (1 : Int), (3 : Int)] (2 : Nat), litI [(2 : Int), (4 : Int)] (0 : Nat),
                                (5 : Int)]
                              (0 : Nat)).toNat <
                          (6 : Nat))
                      (VC.need ((3 : Nat) < (6 : Nat))
                        (VC.done
                          (St.mk
                            [((0 : Nat), AV.adr (100000 : Nat) (0 : Nat)),
                              ((1 : Nat), AV.p true (PV.v (Value.int IntKind.i64 (0 : Int)))),
                              ((4 : Nat), AV.own (1027 : Nat))]
                            [((100000 : Nat),
                                Ob.box
                                  [AV.p false (PV.sl nn (1 : Nat) n (PB f)),
                                    AV.p true (PV.v (Value.int IntKind.i64 (↑(p + (1 : Nat) + (1 : Nat)) : Int)))]),
                              ((1027 : Nat),
                                Ob.row Mode.u true (1 : Nat) (1 : Nat)
                                  (setG [((0 : Nat), (0 : Nat), PV.v (Value.string (ByteArray.mk #[(97 : UInt8)])))]
                                    fun (x j : Nat) => PV.v ([Value.string (ByteArray.mk #[])].getD j undef))
                                  [])]))))))))))) := by
  intros; kernel_rfl
theorem ev_dNames_021 : ∀ (nn : Bool) (n : Nat) (f : Nat → Int) (p : Nat),
  ev G0 res146 [((0 : Nat), RD nn n f p)] (3000 : Nat)
      (Or.call [(100000 : Nat)] (AI (2 : Int)) [((0 : Nat), RD nn n f (p + (1 : Nat)))]
        (Or.call [(100000 : Nat)] (AI (1 : Int)) [((0 : Nat), RD nn n f (p + (1 : Nat) + (1 : Nat)))] Or.nil))
      [Item.ir ir146] (start [AV.adr (0 : Nat) (0 : Nat), AI (0 : Int)] [((0 : Nat), RD nn n f p)]) =
    VC.call (87 : Nat) [AV.adr (0 : Nat) (0 : Nat), AV.p true (PV.v (Value.int IntKind.i64 (3 : Int)))]
      [((0 : Nat),
          Ob.box [AV.p false (PV.sl nn (1 : Nat) n (PB f)), AV.p true (PV.v (Value.int IntKind.i64 (↑p : Int)))])]
      (AI (2 : Int)) [((0 : Nat), RD nn n f (p + (1 : Nat)))]
      (VC.need ((0 : Int) ≤ (2 : Int) ∧ Int.toNat (2 : Int) < (3 : Nat))
        (VC.need ((2 : Nat) < (3 : Nat))
          (VC.call (87 : Nat) [AV.adr (0 : Nat) (0 : Nat), AV.p true (PV.v (Value.int IntKind.i64 (2 : Int)))]
            [((0 : Nat),
                Ob.box
                  [AV.p false (PV.sl nn (1 : Nat) n (PB f)),
                    AV.p true (PV.v (Value.int IntKind.i64 (↑(p + (1 : Nat)) : Int)))])]
            (AI (1 : Int)) [((0 : Nat), RD nn n f (p + (1 : Nat) + (1 : Nat)))]
            (VC.need ((0 : Int) ≤ (1 : Int) ∧ Int.toNat (1 : Int) < (2 : Nat))
              (VC.need ((1 : Nat) < (2 : Nat))
                (VC.need ((0 : Int) ≤ (0 : Int) ∧ Int.toNat (0 : Int) < (3 : Nat))
                  (VC.need ((0 : Nat) < (3 : Nat))
                    (VC.need
                      ((0 : Int) ≤
                          litI
                            [litI [(0 : Int), (1 : Int), (3 : Int)] (2 : Nat), litI [(2 : Int), (4 : Int)] (1 : Nat),
                              (5 : Int)]
                            (0 : Nat) ∧
                        (litI
                              [litI [(0 : Int), (1 : Int), (3 : Int)] (2 : Nat), litI [(2 : Int), (4 : Int)] (1 : Nat),
                                (5 : Int)]
                              (0 : Nat)).toNat <
                          (6 : Nat))
                      (VC.need ((3 : Nat) < (6 : Nat))
                        (VC.done
                          (St.mk
                            [((0 : Nat), AV.adr (100000 : Nat) (0 : Nat)),
                              ((1 : Nat), AV.p true (PV.v (Value.int IntKind.i64 (0 : Int)))),
                              ((4 : Nat), AV.own (1027 : Nat))]
                            [((100000 : Nat),
                                Ob.box
                                  [AV.p false (PV.sl nn (1 : Nat) n (PB f)),
                                    AV.p true (PV.v (Value.int IntKind.i64 (↑(p + (1 : Nat) + (1 : Nat)) : Int)))]),
                              ((1027 : Nat),
                                Ob.row Mode.u true (1 : Nat) (1 : Nat)
                                  (setG [((0 : Nat), (0 : Nat), PV.v (Value.string (ByteArray.mk #[(97 : UInt8)])))]
                                    fun (x j : Nat) => PV.v ([Value.string (ByteArray.mk #[])].getD j undef))
                                  [])]))))))))))) := by
  intros; kernel_rfl
def in_dNames1 (nn : Bool) (n : Nat) (f : Nat → Int) (p : Nat) := (G0, res146, [(0, RD nn n f p)], [Item.ir ir146], start [.adr 0 0, AI 1] [(0, RD nn n f p)])
theorem ev_dNames_100 : ∀ (nn : Bool) (n : Nat) (f : Nat → Int) (p : Nat),
  ev G0 res146 [((0 : Nat), RD nn n f p)] (3000 : Nat)
      (Or.call [(100000 : Nat)] (AI (0 : Int)) [((0 : Nat), RD nn n f (p + (1 : Nat)))]
        (Or.call [(100000 : Nat)] (AI (0 : Int)) [((0 : Nat), RD nn n f (p + (1 : Nat) + (1 : Nat)))] Or.nil))
      [Item.ir ir146] (start [AV.adr (0 : Nat) (0 : Nat), AI (1 : Int)] [((0 : Nat), RD nn n f p)]) =
    VC.call (87 : Nat) [AV.adr (0 : Nat) (0 : Nat), AV.p true (PV.v (Value.int IntKind.i64 (3 : Int)))]
      [((0 : Nat),
          Ob.box [AV.p false (PV.sl nn (1 : Nat) n (PB f)), AV.p true (PV.v (Value.int IntKind.i64 (↑p : Int)))])]
      (AI (0 : Int)) [((0 : Nat), RD nn n f (p + (1 : Nat)))]
      (VC.need ((0 : Int) ≤ (0 : Int) ∧ Int.toNat (0 : Int) < (3 : Nat))
        (VC.need ((0 : Nat) < (3 : Nat))
          (VC.call (87 : Nat) [AV.adr (0 : Nat) (0 : Nat), AV.p true (PV.v (Value.int IntKind.i64 (2 : Int)))]
            [((0 : Nat),
                Ob.box
                  [AV.p false (PV.sl nn (1 : Nat) n (PB f)),
                    AV.p true (PV.v (Value.int IntKind.i64 (↑(p + (1 : Nat)) : Int)))])]
            (AI (0 : Int)) [((0 : Nat), RD nn n f (p + (1 : Nat) + (1 : Nat)))]
            (VC.need ((0 : Int) ≤ (0 : Int) ∧ Int.toNat (0 : Int) < (2 : Nat))
              (VC.need ((0 : Nat) < (2 : Nat))
                (VC.need ((0 : Int) ≤ (1 : Int) ∧ Int.toNat (1 : Int) < (3 : Nat))
                  (VC.need ((1 : Nat) < (3 : Nat))
                    (VC.need
                      ((0 : Int) ≤
                          litI
                            [litI [(0 : Int), (1 : Int), (3 : Int)] (0 : Nat), litI [(2 : Int), (4 : Int)] (0 : Nat),
                              (5 : Int)]
                            (1 : Nat) ∧
                        (litI
                              [litI [(0 : Int), (1 : Int), (3 : Int)] (0 : Nat), litI [(2 : Int), (4 : Int)] (0 : Nat),
                                (5 : Int)]
                              (1 : Nat)).toNat <
                          (6 : Nat))
                      (VC.need ((2 : Nat) < (6 : Nat))
                        (VC.done
                          (St.mk
                            [((0 : Nat), AV.adr (100000 : Nat) (0 : Nat)),
                              ((1 : Nat), AV.p true (PV.v (Value.int IntKind.i64 (1 : Int)))),
                              ((4 : Nat), AV.own (1027 : Nat))]
                            [((100000 : Nat),
                                Ob.box
                                  [AV.p false (PV.sl nn (1 : Nat) n (PB f)),
                                    AV.p true (PV.v (Value.int IntKind.i64 (↑(p + (1 : Nat) + (1 : Nat)) : Int)))]),
                              ((1027 : Nat),
                                Ob.row Mode.u true (1 : Nat) (2 : Nat)
                                  (fun (i x : Nat) =>
                                    PV.v
                                      (Value.string
                                        (litS
                                          [ByteArray.mk #[(107 : UInt8), (101 : UInt8), (121 : UInt8)],
                                            ByteArray.mk
                                              #[(118 : UInt8), (97 : UInt8), (108 : UInt8), (117 : UInt8),
                                                (101 : UInt8)]]
                                          i)))
                                  [])]))))))))))) := by
  intros; kernel_rfl
theorem ev_dNames_101 : ∀ (nn : Bool) (n : Nat) (f : Nat → Int) (p : Nat),
  ev G0 res146 [((0 : Nat), RD nn n f p)] (3000 : Nat)
      (Or.call [(100000 : Nat)] (AI (0 : Int)) [((0 : Nat), RD nn n f (p + (1 : Nat)))]
        (Or.call [(100000 : Nat)] (AI (1 : Int)) [((0 : Nat), RD nn n f (p + (1 : Nat) + (1 : Nat)))] Or.nil))
      [Item.ir ir146] (start [AV.adr (0 : Nat) (0 : Nat), AI (1 : Int)] [((0 : Nat), RD nn n f p)]) =
    VC.call (87 : Nat) [AV.adr (0 : Nat) (0 : Nat), AV.p true (PV.v (Value.int IntKind.i64 (3 : Int)))]
      [((0 : Nat),
          Ob.box [AV.p false (PV.sl nn (1 : Nat) n (PB f)), AV.p true (PV.v (Value.int IntKind.i64 (↑p : Int)))])]
      (AI (0 : Int)) [((0 : Nat), RD nn n f (p + (1 : Nat)))]
      (VC.need ((0 : Int) ≤ (0 : Int) ∧ Int.toNat (0 : Int) < (3 : Nat))
        (VC.need ((0 : Nat) < (3 : Nat))
          (VC.call (87 : Nat) [AV.adr (0 : Nat) (0 : Nat), AV.p true (PV.v (Value.int IntKind.i64 (2 : Int)))]
            [((0 : Nat),
                Ob.box
                  [AV.p false (PV.sl nn (1 : Nat) n (PB f)),
                    AV.p true (PV.v (Value.int IntKind.i64 (↑(p + (1 : Nat)) : Int)))])]
            (AI (1 : Int)) [((0 : Nat), RD nn n f (p + (1 : Nat) + (1 : Nat)))]
            (VC.need ((0 : Int) ≤ (1 : Int) ∧ Int.toNat (1 : Int) < (2 : Nat))
              (VC.need ((1 : Nat) < (2 : Nat))
                (VC.need ((0 : Int) ≤ (1 : Int) ∧ Int.toNat (1 : Int) < (3 : Nat))
                  (VC.need ((1 : Nat) < (3 : Nat))
                    (VC.need
                      ((0 : Int) ≤
                          litI
                            [litI [(0 : Int), (1 : Int), (3 : Int)] (0 : Nat), litI [(2 : Int), (4 : Int)] (1 : Nat),
                              (5 : Int)]
                            (1 : Nat) ∧
                        (litI
                              [litI [(0 : Int), (1 : Int), (3 : Int)] (0 : Nat), litI [(2 : Int), (4 : Int)] (1 : Nat),
                                (5 : Int)]
                              (1 : Nat)).toNat <
                          (6 : Nat))
                      (VC.need ((4 : Nat) < (6 : Nat))
                        (VC.done
                          (St.mk
                            [((0 : Nat), AV.adr (100000 : Nat) (0 : Nat)),
                              ((1 : Nat), AV.p true (PV.v (Value.int IntKind.i64 (1 : Int)))),
                              ((4 : Nat), AV.own (1027 : Nat))]
                            [((100000 : Nat),
                                Ob.box
                                  [AV.p false (PV.sl nn (1 : Nat) n (PB f)),
                                    AV.p true (PV.v (Value.int IntKind.i64 (↑(p + (1 : Nat) + (1 : Nat)) : Int)))]),
                              ((1027 : Nat),
                                Ob.row Mode.u true (1 : Nat) (3 : Nat)
                                  (fun (i x : Nat) =>
                                    PV.v
                                      (Value.string
                                        (litS
                                          [ByteArray.mk #[(107 : UInt8), (101 : UInt8), (121 : UInt8)],
                                            ByteArray.mk #[(110 : UInt8), (97 : UInt8), (109 : UInt8), (101 : UInt8)],
                                            ByteArray.mk
                                              #[(118 : UInt8), (97 : UInt8), (108 : UInt8), (117 : UInt8),
                                                (101 : UInt8)]]
                                          i)))
                                  [])]))))))))))) := by
  intros; kernel_rfl
theorem ev_dNames_110 : ∀ (nn : Bool) (n : Nat) (f : Nat → Int) (p : Nat),
  ev G0 res146 [((0 : Nat), RD nn n f p)] (3000 : Nat)
      (Or.call [(100000 : Nat)] (AI (1 : Int)) [((0 : Nat), RD nn n f (p + (1 : Nat)))]
        (Or.call [(100000 : Nat)] (AI (0 : Int)) [((0 : Nat), RD nn n f (p + (1 : Nat) + (1 : Nat)))] Or.nil))
      [Item.ir ir146] (start [AV.adr (0 : Nat) (0 : Nat), AI (1 : Int)] [((0 : Nat), RD nn n f p)]) =
    VC.call (87 : Nat) [AV.adr (0 : Nat) (0 : Nat), AV.p true (PV.v (Value.int IntKind.i64 (3 : Int)))]
      [((0 : Nat),
          Ob.box [AV.p false (PV.sl nn (1 : Nat) n (PB f)), AV.p true (PV.v (Value.int IntKind.i64 (↑p : Int)))])]
      (AI (1 : Int)) [((0 : Nat), RD nn n f (p + (1 : Nat)))]
      (VC.need ((0 : Int) ≤ (1 : Int) ∧ Int.toNat (1 : Int) < (3 : Nat))
        (VC.need ((1 : Nat) < (3 : Nat))
          (VC.call (87 : Nat) [AV.adr (0 : Nat) (0 : Nat), AV.p true (PV.v (Value.int IntKind.i64 (2 : Int)))]
            [((0 : Nat),
                Ob.box
                  [AV.p false (PV.sl nn (1 : Nat) n (PB f)),
                    AV.p true (PV.v (Value.int IntKind.i64 (↑(p + (1 : Nat)) : Int)))])]
            (AI (0 : Int)) [((0 : Nat), RD nn n f (p + (1 : Nat) + (1 : Nat)))]
            (VC.need ((0 : Int) ≤ (0 : Int) ∧ Int.toNat (0 : Int) < (2 : Nat))
              (VC.need ((0 : Nat) < (2 : Nat))
                (VC.need ((0 : Int) ≤ (1 : Int) ∧ Int.toNat (1 : Int) < (3 : Nat))
                  (VC.need ((1 : Nat) < (3 : Nat))
                    (VC.need
                      ((0 : Int) ≤
                          litI
                            [litI [(0 : Int), (1 : Int), (3 : Int)] (1 : Nat), litI [(2 : Int), (4 : Int)] (0 : Nat),
                              (5 : Int)]
                            (1 : Nat) ∧
                        (litI
                              [litI [(0 : Int), (1 : Int), (3 : Int)] (1 : Nat), litI [(2 : Int), (4 : Int)] (0 : Nat),
                                (5 : Int)]
                              (1 : Nat)).toNat <
                          (6 : Nat))
                      (VC.need ((2 : Nat) < (6 : Nat))
                        (VC.done
                          (St.mk
                            [((0 : Nat), AV.adr (100000 : Nat) (0 : Nat)),
                              ((1 : Nat), AV.p true (PV.v (Value.int IntKind.i64 (1 : Int)))),
                              ((4 : Nat), AV.own (1027 : Nat))]
                            [((100000 : Nat),
                                Ob.box
                                  [AV.p false (PV.sl nn (1 : Nat) n (PB f)),
                                    AV.p true (PV.v (Value.int IntKind.i64 (↑(p + (1 : Nat) + (1 : Nat)) : Int)))]),
                              ((1027 : Nat),
                                Ob.row Mode.u true (1 : Nat) (2 : Nat)
                                  (fun (i x : Nat) =>
                                    PV.v
                                      (Value.string
                                        (litS
                                          [ByteArray.mk #[(107 : UInt8), (101 : UInt8), (121 : UInt8)],
                                            ByteArray.mk
                                              #[(118 : UInt8), (97 : UInt8), (108 : UInt8), (117 : UInt8),
                                                (101 : UInt8)]]
                                          i)))
                                  [])]))))))))))) := by
  intros; kernel_rfl
theorem ev_dNames_111 : ∀ (nn : Bool) (n : Nat) (f : Nat → Int) (p : Nat),
  ev G0 res146 [((0 : Nat), RD nn n f p)] (3000 : Nat)
      (Or.call [(100000 : Nat)] (AI (1 : Int)) [((0 : Nat), RD nn n f (p + (1 : Nat)))]
        (Or.call [(100000 : Nat)] (AI (1 : Int)) [((0 : Nat), RD nn n f (p + (1 : Nat) + (1 : Nat)))] Or.nil))
      [Item.ir ir146] (start [AV.adr (0 : Nat) (0 : Nat), AI (1 : Int)] [((0 : Nat), RD nn n f p)]) =
    VC.call (87 : Nat) [AV.adr (0 : Nat) (0 : Nat), AV.p true (PV.v (Value.int IntKind.i64 (3 : Int)))]
      [((0 : Nat),
          Ob.box [AV.p false (PV.sl nn (1 : Nat) n (PB f)), AV.p true (PV.v (Value.int IntKind.i64 (↑p : Int)))])]
      (AI (1 : Int)) [((0 : Nat), RD nn n f (p + (1 : Nat)))]
      (VC.need ((0 : Int) ≤ (1 : Int) ∧ Int.toNat (1 : Int) < (3 : Nat))
        (VC.need ((1 : Nat) < (3 : Nat))
          (VC.call (87 : Nat) [AV.adr (0 : Nat) (0 : Nat), AV.p true (PV.v (Value.int IntKind.i64 (2 : Int)))]
            [((0 : Nat),
                Ob.box
                  [AV.p false (PV.sl nn (1 : Nat) n (PB f)),
                    AV.p true (PV.v (Value.int IntKind.i64 (↑(p + (1 : Nat)) : Int)))])]
            (AI (1 : Int)) [((0 : Nat), RD nn n f (p + (1 : Nat) + (1 : Nat)))]
            (VC.need ((0 : Int) ≤ (1 : Int) ∧ Int.toNat (1 : Int) < (2 : Nat))
              (VC.need ((1 : Nat) < (2 : Nat))
                (VC.need ((0 : Int) ≤ (1 : Int) ∧ Int.toNat (1 : Int) < (3 : Nat))
                  (VC.need ((1 : Nat) < (3 : Nat))
                    (VC.need
                      ((0 : Int) ≤
                          litI
                            [litI [(0 : Int), (1 : Int), (3 : Int)] (1 : Nat), litI [(2 : Int), (4 : Int)] (1 : Nat),
                              (5 : Int)]
                            (1 : Nat) ∧
                        (litI
                              [litI [(0 : Int), (1 : Int), (3 : Int)] (1 : Nat), litI [(2 : Int), (4 : Int)] (1 : Nat),
                                (5 : Int)]
                              (1 : Nat)).toNat <
                          (6 : Nat))
                      (VC.need ((4 : Nat) < (6 : Nat))
                        (VC.done
                          (St.mk
                            [((0 : Nat), AV.adr (100000 : Nat) (0 : Nat)),
                              ((1 : Nat), AV.p true (PV.v (Value.int IntKind.i64 (1 : Int)))),
                              ((4 : Nat), AV.own (1027 : Nat))]
                            [((100000 : Nat),
                                Ob.box
                                  [AV.p false (PV.sl nn (1 : Nat) n (PB f)),
                                    AV.p true (PV.v (Value.int IntKind.i64 (↑(p + (1 : Nat) + (1 : Nat)) : Int)))]),
                              ((1027 : Nat),
                                Ob.row Mode.u true (1 : Nat) (3 : Nat)
                                  (fun (i x : Nat) =>
                                    PV.v
                                      (Value.string
                                        (litS
                                          [ByteArray.mk #[(107 : UInt8), (101 : UInt8), (121 : UInt8)],
                                            ByteArray.mk #[(110 : UInt8), (97 : UInt8), (109 : UInt8), (101 : UInt8)],
                                            ByteArray.mk
                                              #[(118 : UInt8), (97 : UInt8), (108 : UInt8), (117 : UInt8),
                                                (101 : UInt8)]]
                                          i)))
                                  [])]))))))))))) := by
  intros; kernel_rfl
theorem ev_dNames_120 : ∀ (nn : Bool) (n : Nat) (f : Nat → Int) (p : Nat),
  ev G0 res146 [((0 : Nat), RD nn n f p)] (3000 : Nat)
      (Or.call [(100000 : Nat)] (AI (2 : Int)) [((0 : Nat), RD nn n f (p + (1 : Nat)))]
        (Or.call [(100000 : Nat)] (AI (0 : Int)) [((0 : Nat), RD nn n f (p + (1 : Nat) + (1 : Nat)))] Or.nil))
      [Item.ir ir146] (start [AV.adr (0 : Nat) (0 : Nat), AI (1 : Int)] [((0 : Nat), RD nn n f p)]) =
    VC.call (87 : Nat) [AV.adr (0 : Nat) (0 : Nat), AV.p true (PV.v (Value.int IntKind.i64 (3 : Int)))]
      [((0 : Nat),
          Ob.box [AV.p false (PV.sl nn (1 : Nat) n (PB f)), AV.p true (PV.v (Value.int IntKind.i64 (↑p : Int)))])]
      (AI (2 : Int)) [((0 : Nat), RD nn n f (p + (1 : Nat)))]
      (VC.need ((0 : Int) ≤ (2 : Int) ∧ Int.toNat (2 : Int) < (3 : Nat))
        (VC.need ((2 : Nat) < (3 : Nat))
          (VC.call (87 : Nat) [AV.adr (0 : Nat) (0 : Nat), AV.p true (PV.v (Value.int IntKind.i64 (2 : Int)))]
            [((0 : Nat),
                Ob.box
                  [AV.p false (PV.sl nn (1 : Nat) n (PB f)),
                    AV.p true (PV.v (Value.int IntKind.i64 (↑(p + (1 : Nat)) : Int)))])]
            (AI (0 : Int)) [((0 : Nat), RD nn n f (p + (1 : Nat) + (1 : Nat)))]
            (VC.need ((0 : Int) ≤ (0 : Int) ∧ Int.toNat (0 : Int) < (2 : Nat))
              (VC.need ((0 : Nat) < (2 : Nat))
                (VC.need ((0 : Int) ≤ (1 : Int) ∧ Int.toNat (1 : Int) < (3 : Nat))
                  (VC.need ((1 : Nat) < (3 : Nat))
                    (VC.need
                      ((0 : Int) ≤
                          litI
                            [litI [(0 : Int), (1 : Int), (3 : Int)] (2 : Nat), litI [(2 : Int), (4 : Int)] (0 : Nat),
                              (5 : Int)]
                            (1 : Nat) ∧
                        (litI
                              [litI [(0 : Int), (1 : Int), (3 : Int)] (2 : Nat), litI [(2 : Int), (4 : Int)] (0 : Nat),
                                (5 : Int)]
                              (1 : Nat)).toNat <
                          (6 : Nat))
                      (VC.need ((2 : Nat) < (6 : Nat))
                        (VC.done
                          (St.mk
                            [((0 : Nat), AV.adr (100000 : Nat) (0 : Nat)),
                              ((1 : Nat), AV.p true (PV.v (Value.int IntKind.i64 (1 : Int)))),
                              ((4 : Nat), AV.own (1027 : Nat))]
                            [((100000 : Nat),
                                Ob.box
                                  [AV.p false (PV.sl nn (1 : Nat) n (PB f)),
                                    AV.p true (PV.v (Value.int IntKind.i64 (↑(p + (1 : Nat) + (1 : Nat)) : Int)))]),
                              ((1027 : Nat),
                                Ob.row Mode.u true (1 : Nat) (2 : Nat)
                                  (fun (i x : Nat) =>
                                    PV.v
                                      (Value.string
                                        (litS
                                          [ByteArray.mk #[(107 : UInt8), (101 : UInt8), (121 : UInt8)],
                                            ByteArray.mk
                                              #[(118 : UInt8), (97 : UInt8), (108 : UInt8), (117 : UInt8),
                                                (101 : UInt8)]]
                                          i)))
                                  [])]))))))))))) := by
  intros; kernel_rfl
theorem ev_dNames_121 : ∀ (nn : Bool) (n : Nat) (f : Nat → Int) (p : Nat),
  ev G0 res146 [((0 : Nat), RD nn n f p)] (3000 : Nat)
      (Or.call [(100000 : Nat)] (AI (2 : Int)) [((0 : Nat), RD nn n f (p + (1 : Nat)))]
        (Or.call [(100000 : Nat)] (AI (1 : Int)) [((0 : Nat), RD nn n f (p + (1 : Nat) + (1 : Nat)))] Or.nil))
      [Item.ir ir146] (start [AV.adr (0 : Nat) (0 : Nat), AI (1 : Int)] [((0 : Nat), RD nn n f p)]) =
    VC.call (87 : Nat) [AV.adr (0 : Nat) (0 : Nat), AV.p true (PV.v (Value.int IntKind.i64 (3 : Int)))]
      [((0 : Nat),
          Ob.box [AV.p false (PV.sl nn (1 : Nat) n (PB f)), AV.p true (PV.v (Value.int IntKind.i64 (↑p : Int)))])]
      (AI (2 : Int)) [((0 : Nat), RD nn n f (p + (1 : Nat)))]
      (VC.need ((0 : Int) ≤ (2 : Int) ∧ Int.toNat (2 : Int) < (3 : Nat))
        (VC.need ((2 : Nat) < (3 : Nat))
          (VC.call (87 : Nat) [AV.adr (0 : Nat) (0 : Nat), AV.p true (PV.v (Value.int IntKind.i64 (2 : Int)))]
            [((0 : Nat),
                Ob.box
                  [AV.p false (PV.sl nn (1 : Nat) n (PB f)),
                    AV.p true (PV.v (Value.int IntKind.i64 (↑(p + (1 : Nat)) : Int)))])]
            (AI (1 : Int)) [((0 : Nat), RD nn n f (p + (1 : Nat) + (1 : Nat)))]
            (VC.need ((0 : Int) ≤ (1 : Int) ∧ Int.toNat (1 : Int) < (2 : Nat))
              (VC.need ((1 : Nat) < (2 : Nat))
                (VC.need ((0 : Int) ≤ (1 : Int) ∧ Int.toNat (1 : Int) < (3 : Nat))
                  (VC.need ((1 : Nat) < (3 : Nat))
                    (VC.need
                      ((0 : Int) ≤
                          litI
                            [litI [(0 : Int), (1 : Int), (3 : Int)] (2 : Nat), litI [(2 : Int), (4 : Int)] (1 : Nat),
                              (5 : Int)]
                            (1 : Nat) ∧
                        (litI
                              [litI [(0 : Int), (1 : Int), (3 : Int)] (2 : Nat), litI [(2 : Int), (4 : Int)] (1 : Nat),
                                (5 : Int)]
                              (1 : Nat)).toNat <
                          (6 : Nat))
                      (VC.need ((4 : Nat) < (6 : Nat))
                        (VC.done
                          (St.mk
                            [((0 : Nat), AV.adr (100000 : Nat) (0 : Nat)),
                              ((1 : Nat), AV.p true (PV.v (Value.int IntKind.i64 (1 : Int)))),
                              ((4 : Nat), AV.own (1027 : Nat))]
                            [((100000 : Nat),
                                Ob.box
                                  [AV.p false (PV.sl nn (1 : Nat) n (PB f)),
                                    AV.p true (PV.v (Value.int IntKind.i64 (↑(p + (1 : Nat) + (1 : Nat)) : Int)))]),
                              ((1027 : Nat),
                                Ob.row Mode.u true (1 : Nat) (3 : Nat)
                                  (fun (i x : Nat) =>
                                    PV.v
                                      (Value.string
                                        (litS
                                          [ByteArray.mk #[(107 : UInt8), (101 : UInt8), (121 : UInt8)],
                                            ByteArray.mk #[(110 : UInt8), (97 : UInt8), (109 : UInt8), (101 : UInt8)],
                                            ByteArray.mk
                                              #[(118 : UInt8), (97 : UInt8), (108 : UInt8), (117 : UInt8),
                                                (101 : UInt8)]]
                                          i)))
                                  [])]))))))))))) := by
  intros; kernel_rfl
def in_dNames2 (nn : Bool) (n : Nat) (f : Nat → Int) (p : Nat) := (G0, res146, [(0, RD nn n f p)], [Item.ir ir146], start [.adr 0 0, AI 2] [(0, RD nn n f p)])
theorem ev_dNames_200 : ∀ (nn : Bool) (n : Nat) (f : Nat → Int) (p : Nat),
  ev G0 res146 [((0 : Nat), RD nn n f p)] (3000 : Nat)
      (Or.call [(100000 : Nat)] (AI (0 : Int)) [((0 : Nat), RD nn n f (p + (1 : Nat)))]
        (Or.call [(100000 : Nat)] (AI (0 : Int)) [((0 : Nat), RD nn n f (p + (1 : Nat) + (1 : Nat)))] Or.nil))
      [Item.ir ir146] (start [AV.adr (0 : Nat) (0 : Nat), AI (2 : Int)] [((0 : Nat), RD nn n f p)]) =
    VC.call (87 : Nat) [AV.adr (0 : Nat) (0 : Nat), AV.p true (PV.v (Value.int IntKind.i64 (3 : Int)))]
      [((0 : Nat),
          Ob.box [AV.p false (PV.sl nn (1 : Nat) n (PB f)), AV.p true (PV.v (Value.int IntKind.i64 (↑p : Int)))])]
      (AI (0 : Int)) [((0 : Nat), RD nn n f (p + (1 : Nat)))]
      (VC.need ((0 : Int) ≤ (0 : Int) ∧ Int.toNat (0 : Int) < (3 : Nat))
        (VC.need ((0 : Nat) < (3 : Nat))
          (VC.call (87 : Nat) [AV.adr (0 : Nat) (0 : Nat), AV.p true (PV.v (Value.int IntKind.i64 (2 : Int)))]
            [((0 : Nat),
                Ob.box
                  [AV.p false (PV.sl nn (1 : Nat) n (PB f)),
                    AV.p true (PV.v (Value.int IntKind.i64 (↑(p + (1 : Nat)) : Int)))])]
            (AI (0 : Int)) [((0 : Nat), RD nn n f (p + (1 : Nat) + (1 : Nat)))]
            (VC.need ((0 : Int) ≤ (0 : Int) ∧ Int.toNat (0 : Int) < (2 : Nat))
              (VC.need ((0 : Nat) < (2 : Nat))
                (VC.need ((0 : Int) ≤ (2 : Int) ∧ Int.toNat (2 : Int) < (3 : Nat))
                  (VC.need ((2 : Nat) < (3 : Nat))
                    (VC.need
                      ((0 : Int) ≤
                          litI
                            [litI [(0 : Int), (1 : Int), (3 : Int)] (0 : Nat), litI [(2 : Int), (4 : Int)] (0 : Nat),
                              (5 : Int)]
                            (2 : Nat) ∧
                        (litI
                              [litI [(0 : Int), (1 : Int), (3 : Int)] (0 : Nat), litI [(2 : Int), (4 : Int)] (0 : Nat),
                                (5 : Int)]
                              (2 : Nat)).toNat <
                          (6 : Nat))
                      (VC.need ((5 : Nat) < (6 : Nat))
                        (VC.done
                          (St.mk
                            [((0 : Nat), AV.adr (100000 : Nat) (0 : Nat)),
                              ((1 : Nat), AV.p true (PV.v (Value.int IntKind.i64 (2 : Int)))),
                              ((4 : Nat), AV.own (1027 : Nat))]
                            [((100000 : Nat),
                                Ob.box
                                  [AV.p false (PV.sl nn (1 : Nat) n (PB f)),
                                    AV.p true (PV.v (Value.int IntKind.i64 (↑(p + (1 : Nat) + (1 : Nat)) : Int)))]),
                              ((1027 : Nat),
                                Ob.row Mode.u true (1 : Nat) (2 : Nat)
                                  (fun (i x : Nat) =>
                                    PV.v
                                      (Value.string
                                        (litS
                                          [ByteArray.mk #[(98 : UInt8)],
                                            ByteArray.mk #[(107 : UInt8), (101 : UInt8), (121 : UInt8)]]
                                          i)))
                                  [])]))))))))))) := by
  intros; kernel_rfl
theorem ev_dNames_201 : ∀ (nn : Bool) (n : Nat) (f : Nat → Int) (p : Nat),
  ev G0 res146 [((0 : Nat), RD nn n f p)] (3000 : Nat)
      (Or.call [(100000 : Nat)] (AI (0 : Int)) [((0 : Nat), RD nn n f (p + (1 : Nat)))]
        (Or.call [(100000 : Nat)] (AI (1 : Int)) [((0 : Nat), RD nn n f (p + (1 : Nat) + (1 : Nat)))] Or.nil))
      [Item.ir ir146] (start [AV.adr (0 : Nat) (0 : Nat), AI (2 : Int)] [((0 : Nat), RD nn n f p)]) =
    VC.call (87 : Nat) [AV.adr (0 : Nat) (0 : Nat), AV.p true (PV.v (Value.int IntKind.i64 (3 : Int)))]
      [((0 : Nat),
          Ob.box [AV.p false (PV.sl nn (1 : Nat) n (PB f)), AV.p true (PV.v (Value.int IntKind.i64 (↑p : Int)))])]
      (AI (0 : Int)) [((0 : Nat), RD nn n f (p + (1 : Nat)))]
      (VC.need ((0 : Int) ≤ (0 : Int) ∧ Int.toNat (0 : Int) < (3 : Nat))
        (VC.need ((0 : Nat) < (3 : Nat))
          (VC.call (87 : Nat) [AV.adr (0 : Nat) (0 : Nat), AV.p true (PV.v (Value.int IntKind.i64 (2 : Int)))]
            [((0 : Nat),
                Ob.box
                  [AV.p false (PV.sl nn (1 : Nat) n (PB f)),
                    AV.p true (PV.v (Value.int IntKind.i64 (↑(p + (1 : Nat)) : Int)))])]
            (AI (1 : Int)) [((0 : Nat), RD nn n f (p + (1 : Nat) + (1 : Nat)))]
            (VC.need ((0 : Int) ≤ (1 : Int) ∧ Int.toNat (1 : Int) < (2 : Nat))
              (VC.need ((1 : Nat) < (2 : Nat))
                (VC.need ((0 : Int) ≤ (2 : Int) ∧ Int.toNat (2 : Int) < (3 : Nat))
                  (VC.need ((2 : Nat) < (3 : Nat))
                    (VC.need
                      ((0 : Int) ≤
                          litI
                            [litI [(0 : Int), (1 : Int), (3 : Int)] (0 : Nat), litI [(2 : Int), (4 : Int)] (1 : Nat),
                              (5 : Int)]
                            (2 : Nat) ∧
                        (litI
                              [litI [(0 : Int), (1 : Int), (3 : Int)] (0 : Nat), litI [(2 : Int), (4 : Int)] (1 : Nat),
                                (5 : Int)]
                              (2 : Nat)).toNat <
                          (6 : Nat))
                      (VC.need ((5 : Nat) < (6 : Nat))
                        (VC.done
                          (St.mk
                            [((0 : Nat), AV.adr (100000 : Nat) (0 : Nat)),
                              ((1 : Nat), AV.p true (PV.v (Value.int IntKind.i64 (2 : Int)))),
                              ((4 : Nat), AV.own (1027 : Nat))]
                            [((100000 : Nat),
                                Ob.box
                                  [AV.p false (PV.sl nn (1 : Nat) n (PB f)),
                                    AV.p true (PV.v (Value.int IntKind.i64 (↑(p + (1 : Nat) + (1 : Nat)) : Int)))]),
                              ((1027 : Nat),
                                Ob.row Mode.u true (1 : Nat) (2 : Nat)
                                  (fun (i x : Nat) =>
                                    PV.v
                                      (Value.string
                                        (litS
                                          [ByteArray.mk #[(98 : UInt8)],
                                            ByteArray.mk #[(107 : UInt8), (101 : UInt8), (121 : UInt8)]]
                                          i)))
                                  [])]))))))))))) := by
  intros; kernel_rfl
theorem ev_dNames_210 : ∀ (nn : Bool) (n : Nat) (f : Nat → Int) (p : Nat),
  ev G0 res146 [((0 : Nat), RD nn n f p)] (3000 : Nat)
      (Or.call [(100000 : Nat)] (AI (1 : Int)) [((0 : Nat), RD nn n f (p + (1 : Nat)))]
        (Or.call [(100000 : Nat)] (AI (0 : Int)) [((0 : Nat), RD nn n f (p + (1 : Nat) + (1 : Nat)))] Or.nil))
      [Item.ir ir146] (start [AV.adr (0 : Nat) (0 : Nat), AI (2 : Int)] [((0 : Nat), RD nn n f p)]) =
    VC.call (87 : Nat) [AV.adr (0 : Nat) (0 : Nat), AV.p true (PV.v (Value.int IntKind.i64 (3 : Int)))]
      [((0 : Nat),
          Ob.box [AV.p false (PV.sl nn (1 : Nat) n (PB f)), AV.p true (PV.v (Value.int IntKind.i64 (↑p : Int)))])]
      (AI (1 : Int)) [((0 : Nat), RD nn n f (p + (1 : Nat)))]
      (VC.need ((0 : Int) ≤ (1 : Int) ∧ Int.toNat (1 : Int) < (3 : Nat))
        (VC.need ((1 : Nat) < (3 : Nat))
          (VC.call (87 : Nat) [AV.adr (0 : Nat) (0 : Nat), AV.p true (PV.v (Value.int IntKind.i64 (2 : Int)))]
            [((0 : Nat),
                Ob.box
                  [AV.p false (PV.sl nn (1 : Nat) n (PB f)),
                    AV.p true (PV.v (Value.int IntKind.i64 (↑(p + (1 : Nat)) : Int)))])]
            (AI (0 : Int)) [((0 : Nat), RD nn n f (p + (1 : Nat) + (1 : Nat)))]
            (VC.need ((0 : Int) ≤ (0 : Int) ∧ Int.toNat (0 : Int) < (2 : Nat))
              (VC.need ((0 : Nat) < (2 : Nat))
                (VC.need ((0 : Int) ≤ (2 : Int) ∧ Int.toNat (2 : Int) < (3 : Nat))
                  (VC.need ((2 : Nat) < (3 : Nat))
                    (VC.need
                      ((0 : Int) ≤
                          litI
                            [litI [(0 : Int), (1 : Int), (3 : Int)] (1 : Nat), litI [(2 : Int), (4 : Int)] (0 : Nat),
                              (5 : Int)]
                            (2 : Nat) ∧
                        (litI
                              [litI [(0 : Int), (1 : Int), (3 : Int)] (1 : Nat), litI [(2 : Int), (4 : Int)] (0 : Nat),
                                (5 : Int)]
                              (2 : Nat)).toNat <
                          (6 : Nat))
                      (VC.need ((5 : Nat) < (6 : Nat))
                        (VC.done
                          (St.mk
                            [((0 : Nat), AV.adr (100000 : Nat) (0 : Nat)),
                              ((1 : Nat), AV.p true (PV.v (Value.int IntKind.i64 (2 : Int)))),
                              ((4 : Nat), AV.own (1027 : Nat))]
                            [((100000 : Nat),
                                Ob.box
                                  [AV.p false (PV.sl nn (1 : Nat) n (PB f)),
                                    AV.p true (PV.v (Value.int IntKind.i64 (↑(p + (1 : Nat) + (1 : Nat)) : Int)))]),
                              ((1027 : Nat),
                                Ob.row Mode.u true (1 : Nat) (2 : Nat)
                                  (fun (i x : Nat) =>
                                    PV.v
                                      (Value.string
                                        (litS
                                          [ByteArray.mk #[(98 : UInt8)],
                                            ByteArray.mk #[(107 : UInt8), (101 : UInt8), (121 : UInt8)]]
                                          i)))
                                  [])]))))))))))) := by
  intros; kernel_rfl
theorem ev_dNames_211 : ∀ (nn : Bool) (n : Nat) (f : Nat → Int) (p : Nat),
  ev G0 res146 [((0 : Nat), RD nn n f p)] (3000 : Nat)
      (Or.call [(100000 : Nat)] (AI (1 : Int)) [((0 : Nat), RD nn n f (p + (1 : Nat)))]
        (Or.call [(100000 : Nat)] (AI (1 : Int)) [((0 : Nat), RD nn n f (p + (1 : Nat) + (1 : Nat)))] Or.nil))
      [Item.ir ir146] (start [AV.adr (0 : Nat) (0 : Nat), AI (2 : Int)] [((0 : Nat), RD nn n f p)]) =
    VC.call (87 : Nat) [AV.adr (0 : Nat) (0 : Nat), AV.p true (PV.v (Value.int IntKind.i64 (3 : Int)))]
      [((0 : Nat),
          Ob.box [AV.p false (PV.sl nn (1 : Nat) n (PB f)), AV.p true (PV.v (Value.int IntKind.i64 (↑p : Int)))])]
      (AI (1 : Int)) [((0 : Nat), RD nn n f (p + (1 : Nat)))]
      (VC.need ((0 : Int) ≤ (1 : Int) ∧ Int.toNat (1 : Int) < (3 : Nat))
        (VC.need ((1 : Nat) < (3 : Nat))
          (VC.call (87 : Nat) [AV.adr (0 : Nat) (0 : Nat), AV.p true (PV.v (Value.int IntKind.i64 (2 : Int)))]
            [((0 : Nat),
                Ob.box
                  [AV.p false (PV.sl nn (1 : Nat) n (PB f)),
                    AV.p true (PV.v (Value.int IntKind.i64 (↑(p + (1 : Nat)) : Int)))])]
            (AI (1 : Int)) [((0 : Nat), RD nn n f (p + (1 : Nat) + (1 : Nat)))]
            (VC.need ((0 : Int) ≤ (1 : Int) ∧ Int.toNat (1 : Int) < (2 : Nat))
              (VC.need ((1 : Nat) < (2 : Nat))
                (VC.need ((0 : Int) ≤ (2 : Int) ∧ Int.toNat (2 : Int) < (3 : Nat))
                  (VC.need ((2 : Nat) < (3 : Nat))
                    (VC.need
                      ((0 : Int) ≤
                          litI
                            [litI [(0 : Int), (1 : Int), (3 : Int)] (1 : Nat), litI [(2 : Int), (4 : Int)] (1 : Nat),
                              (5 : Int)]
                            (2 : Nat) ∧
                        (litI
                              [litI [(0 : Int), (1 : Int), (3 : Int)] (1 : Nat), litI [(2 : Int), (4 : Int)] (1 : Nat),
                                (5 : Int)]
                              (2 : Nat)).toNat <
                          (6 : Nat))
                      (VC.need ((5 : Nat) < (6 : Nat))
                        (VC.done
                          (St.mk
                            [((0 : Nat), AV.adr (100000 : Nat) (0 : Nat)),
                              ((1 : Nat), AV.p true (PV.v (Value.int IntKind.i64 (2 : Int)))),
                              ((4 : Nat), AV.own (1027 : Nat))]
                            [((100000 : Nat),
                                Ob.box
                                  [AV.p false (PV.sl nn (1 : Nat) n (PB f)),
                                    AV.p true (PV.v (Value.int IntKind.i64 (↑(p + (1 : Nat) + (1 : Nat)) : Int)))]),
                              ((1027 : Nat),
                                Ob.row Mode.u true (1 : Nat) (2 : Nat)
                                  (fun (i x : Nat) =>
                                    PV.v
                                      (Value.string
                                        (litS
                                          [ByteArray.mk #[(98 : UInt8)],
                                            ByteArray.mk #[(107 : UInt8), (101 : UInt8), (121 : UInt8)]]
                                          i)))
                                  [])]))))))))))) := by
  intros; kernel_rfl
theorem ev_dNames_220 : ∀ (nn : Bool) (n : Nat) (f : Nat → Int) (p : Nat),
  ev G0 res146 [((0 : Nat), RD nn n f p)] (3000 : Nat)
      (Or.call [(100000 : Nat)] (AI (2 : Int)) [((0 : Nat), RD nn n f (p + (1 : Nat)))]
        (Or.call [(100000 : Nat)] (AI (0 : Int)) [((0 : Nat), RD nn n f (p + (1 : Nat) + (1 : Nat)))] Or.nil))
      [Item.ir ir146] (start [AV.adr (0 : Nat) (0 : Nat), AI (2 : Int)] [((0 : Nat), RD nn n f p)]) =
    VC.call (87 : Nat) [AV.adr (0 : Nat) (0 : Nat), AV.p true (PV.v (Value.int IntKind.i64 (3 : Int)))]
      [((0 : Nat),
          Ob.box [AV.p false (PV.sl nn (1 : Nat) n (PB f)), AV.p true (PV.v (Value.int IntKind.i64 (↑p : Int)))])]
      (AI (2 : Int)) [((0 : Nat), RD nn n f (p + (1 : Nat)))]
      (VC.need ((0 : Int) ≤ (2 : Int) ∧ Int.toNat (2 : Int) < (3 : Nat))
        (VC.need ((2 : Nat) < (3 : Nat))
          (VC.call (87 : Nat) [AV.adr (0 : Nat) (0 : Nat), AV.p true (PV.v (Value.int IntKind.i64 (2 : Int)))]
            [((0 : Nat),
                Ob.box
                  [AV.p false (PV.sl nn (1 : Nat) n (PB f)),
                    AV.p true (PV.v (Value.int IntKind.i64 (↑(p + (1 : Nat)) : Int)))])]
            (AI (0 : Int)) [((0 : Nat), RD nn n f (p + (1 : Nat) + (1 : Nat)))]
            (VC.need ((0 : Int) ≤ (0 : Int) ∧ Int.toNat (0 : Int) < (2 : Nat))
              (VC.need ((0 : Nat) < (2 : Nat))
                (VC.need ((0 : Int) ≤ (2 : Int) ∧ Int.toNat (2 : Int) < (3 : Nat))
                  (VC.need ((2 : Nat) < (3 : Nat))
                    (VC.need
                      ((0 : Int) ≤
                          litI
                            [litI [(0 : Int), (1 : Int), (3 : Int)] (2 : Nat), litI [(2 : Int), (4 : Int)] (0 : Nat),
                              (5 : Int)]
                            (2 : Nat) ∧
                        (litI
                              [litI [(0 : Int), (1 : Int), (3 : Int)] (2 : Nat), litI [(2 : Int), (4 : Int)] (0 : Nat),
                                (5 : Int)]
                              (2 : Nat)).toNat <
                          (6 : Nat))
                      (VC.need ((5 : Nat) < (6 : Nat))
                        (VC.done
                          (St.mk
                            [((0 : Nat), AV.adr (100000 : Nat) (0 : Nat)),
                              ((1 : Nat), AV.p true (PV.v (Value.int IntKind.i64 (2 : Int)))),
                              ((4 : Nat), AV.own (1027 : Nat))]
                            [((100000 : Nat),
                                Ob.box
                                  [AV.p false (PV.sl nn (1 : Nat) n (PB f)),
                                    AV.p true (PV.v (Value.int IntKind.i64 (↑(p + (1 : Nat) + (1 : Nat)) : Int)))]),
                              ((1027 : Nat),
                                Ob.row Mode.u true (1 : Nat) (2 : Nat)
                                  (fun (i x : Nat) =>
                                    PV.v
                                      (Value.string
                                        (litS
                                          [ByteArray.mk #[(98 : UInt8)],
                                            ByteArray.mk #[(107 : UInt8), (101 : UInt8), (121 : UInt8)]]
                                          i)))
                                  [])]))))))))))) := by
  intros; kernel_rfl
theorem ev_dNames_221 : ∀ (nn : Bool) (n : Nat) (f : Nat → Int) (p : Nat),
  ev G0 res146 [((0 : Nat), RD nn n f p)] (3000 : Nat)
      (Or.call [(100000 : Nat)] (AI (2 : Int)) [((0 : Nat), RD nn n f (p + (1 : Nat)))]
        (Or.call [(100000 : Nat)] (AI (1 : Int)) [((0 : Nat), RD nn n f (p + (1 : Nat) + (1 : Nat)))] Or.nil))
      [Item.ir ir146] (start [AV.adr (0 : Nat) (0 : Nat), AI (2 : Int)] [((0 : Nat), RD nn n f p)]) =
    VC.call (87 : Nat) [AV.adr (0 : Nat) (0 : Nat), AV.p true (PV.v (Value.int IntKind.i64 (3 : Int)))]
      [((0 : Nat),
          Ob.box [AV.p false (PV.sl nn (1 : Nat) n (PB f)), AV.p true (PV.v (Value.int IntKind.i64 (↑p : Int)))])]
      (AI (2 : Int)) [((0 : Nat), RD nn n f (p + (1 : Nat)))]
      (VC.need ((0 : Int) ≤ (2 : Int) ∧ Int.toNat (2 : Int) < (3 : Nat))
        (VC.need ((2 : Nat) < (3 : Nat))
          (VC.call (87 : Nat) [AV.adr (0 : Nat) (0 : Nat), AV.p true (PV.v (Value.int IntKind.i64 (2 : Int)))]
            [((0 : Nat),
                Ob.box
                  [AV.p false (PV.sl nn (1 : Nat) n (PB f)),
                    AV.p true (PV.v (Value.int IntKind.i64 (↑(p + (1 : Nat)) : Int)))])]
            (AI (1 : Int)) [((0 : Nat), RD nn n f (p + (1 : Nat) + (1 : Nat)))]
            (VC.need ((0 : Int) ≤ (1 : Int) ∧ Int.toNat (1 : Int) < (2 : Nat))
              (VC.need ((1 : Nat) < (2 : Nat))
                (VC.need ((0 : Int) ≤ (2 : Int) ∧ Int.toNat (2 : Int) < (3 : Nat))
                  (VC.need ((2 : Nat) < (3 : Nat))
                    (VC.need
                      ((0 : Int) ≤
                          litI
                            [litI [(0 : Int), (1 : Int), (3 : Int)] (2 : Nat), litI [(2 : Int), (4 : Int)] (1 : Nat),
                              (5 : Int)]
                            (2 : Nat) ∧
                        (litI
                              [litI [(0 : Int), (1 : Int), (3 : Int)] (2 : Nat), litI [(2 : Int), (4 : Int)] (1 : Nat),
                                (5 : Int)]
                              (2 : Nat)).toNat <
                          (6 : Nat))
                      (VC.need ((5 : Nat) < (6 : Nat))
                        (VC.done
                          (St.mk
                            [((0 : Nat), AV.adr (100000 : Nat) (0 : Nat)),
                              ((1 : Nat), AV.p true (PV.v (Value.int IntKind.i64 (2 : Int)))),
                              ((4 : Nat), AV.own (1027 : Nat))]
                            [((100000 : Nat),
                                Ob.box
                                  [AV.p false (PV.sl nn (1 : Nat) n (PB f)),
                                    AV.p true (PV.v (Value.int IntKind.i64 (↑(p + (1 : Nat) + (1 : Nat)) : Int)))]),
                              ((1027 : Nat),
                                Ob.row Mode.u true (1 : Nat) (2 : Nat)
                                  (fun (i x : Nat) =>
                                    PV.v
                                      (Value.string
                                        (litS
                                          [ByteArray.mk #[(98 : UInt8)],
                                            ByteArray.mk #[(107 : UInt8), (101 : UInt8), (121 : UInt8)]]
                                          i)))
                                  [])]))))))))))) := by
  intros; kernel_rfl
abbrev nmR (y : List ByteArray) : AV := .own 1
abbrev nmH (nn : Bool) (n : Nat) (f : Nat → Int) (p : Nat) (y : List ByteArray) : List (Nat × Ob) := [(0, RD nn n f p), (1, .row .u false 1 y.length (TR (litS y)) [])]
def nmOk (y : List ByteArray) : Prop := 1 ≤ y.length ∧ y.length ≤ 3 ∧ ∀ x, x ∈ y → x.size ≤ 5
theorem c_dNames0 (nn : Bool) (n : Nat) (f : Nat → Int) (p : Nat) (hb : Bytes f) (hp : p ≤ 1000000000 - 2) : PSome Tryd.prog G0 146 [.adr 0 0, AI 0] [(0, RD nn n f p)] (List ByteArray) nmOk nmR (nmH nn n f (p + 2)) := by
  have r1 := pick_rng (n := n) (p := p) (m := 3) hb (by omega) (by omega)
  have r2 := pick_rng (n := n) (p := p + 1) (m := 2) hb (by omega) (by omega)
  have s1 : pickV n f p 3 = 0 ∨ pickV n f p 3 = 1 ∨ pickV n f p 3 = 2 := by omega
  have s2 : pickV n f (p + 1) 2 = 0 ∨ pickV n f (p + 1) 2 = 1 := by omega
  rcases s1 with h1 | h1 | h1 <;> rcases s2 with h2 | h2
  · refine PCall.by chk146 rfl (ev_dNames_000 nn n f p) ?_
    simp only [VC.holds_split, VC.holds_need, VC.holds_doneP, VC.holds_done, VC.holds_either, VC.holds_call, VC.holds_callE, VC.holds_lend, VC.holds_stop, VC.holds_fail, decide_eq_true_eq, decide_eq_false_iff_not]
    refine ⟨c_pk3_0 _ _ _ _ hb (by omega) h1, by decide, by decide, c_pk2_0 _ _ _ _ hb (by omega) h2, by decide, by decide, by decide, by decide, by decide, by decide, ResOk.mk [] [(0, 100000), (1, 1027)] [] _ _ ?_ ⟨[⟨#[97]⟩, ⟨#[98]⟩], ⟨by decide, by decide, by decide⟩, rfl, rfl⟩⟩
    simp [doneC, resOf, resAV, tup, pinR, PV.Le_self, hbs, St.lowers, St.lower, stLe, leEnv, leObs, obLe, injB, pinC, AV.leC, AV.leCs, PV.leC, PV.Le_v, St.get, St.obj, look, rho, isNew, keptC, renH, Mode.ok, Mode.isZ, PV.isVal, PV.isNilSl, List.all_nil, List.all_cons, List.any_nil, List.any_cons, List.map_nil, List.map_cons, res146]
    first | omega | exact ⟨by omega, .refl _⟩
  · refine PCall.by chk146 rfl (ev_dNames_001 nn n f p) ?_
    simp only [VC.holds_split, VC.holds_need, VC.holds_doneP, VC.holds_done, VC.holds_either, VC.holds_call, VC.holds_callE, VC.holds_lend, VC.holds_stop, VC.holds_fail, decide_eq_true_eq, decide_eq_false_iff_not]
    refine ⟨c_pk3_0 _ _ _ _ hb (by omega) h1, by decide, by decide, c_pk2_1 _ _ _ _ hb (by omega) h2, by decide, by decide, by decide, by decide, by decide, by decide, ResOk.mk [] [(0, 100000), (1, 1027)] [] _ _ ?_ ⟨[⟨#[97]⟩, ⟨#[98]⟩], ⟨by decide, by decide, by decide⟩, rfl, rfl⟩⟩
    simp [doneC, resOf, resAV, tup, pinR, PV.Le_self, hbs, St.lowers, St.lower, stLe, leEnv, leObs, obLe, injB, pinC, AV.leC, AV.leCs, PV.leC, PV.Le_v, St.get, St.obj, look, rho, isNew, keptC, renH, Mode.ok, Mode.isZ, PV.isVal, PV.isNilSl, List.all_nil, List.all_cons, List.any_nil, List.any_cons, List.map_nil, List.map_cons, res146]
    first | omega | exact ⟨by omega, .refl _⟩
  · refine PCall.by chk146 rfl (ev_dNames_010 nn n f p) ?_
    simp only [VC.holds_split, VC.holds_need, VC.holds_doneP, VC.holds_done, VC.holds_either, VC.holds_call, VC.holds_callE, VC.holds_lend, VC.holds_stop, VC.holds_fail, decide_eq_true_eq, decide_eq_false_iff_not]
    refine ⟨c_pk3_1 _ _ _ _ hb (by omega) h1, by decide, by decide, c_pk2_0 _ _ _ _ hb (by omega) h2, by decide, by decide, by decide, by decide, by decide, by decide, ResOk.mk [] [(0, 100000), (1, 1027)] [] _ _ ?_ ⟨[⟨#[97]⟩, ⟨#[98]⟩, ⟨#[99]⟩], ⟨by decide, by decide, by decide⟩, rfl, rfl⟩⟩
    simp [doneC, resOf, resAV, tup, pinR, PV.Le_self, hbs, St.lowers, St.lower, stLe, leEnv, leObs, obLe, injB, pinC, AV.leC, AV.leCs, PV.leC, PV.Le_v, St.get, St.obj, look, rho, isNew, keptC, renH, Mode.ok, Mode.isZ, PV.isVal, PV.isNilSl, List.all_nil, List.all_cons, List.any_nil, List.any_cons, List.map_nil, List.map_cons, res146]
    first | omega | exact ⟨by omega, .refl _⟩
  · refine PCall.by chk146 rfl (ev_dNames_011 nn n f p) ?_
    simp only [VC.holds_split, VC.holds_need, VC.holds_doneP, VC.holds_done, VC.holds_either, VC.holds_call, VC.holds_callE, VC.holds_lend, VC.holds_stop, VC.holds_fail, decide_eq_true_eq, decide_eq_false_iff_not]
    refine ⟨c_pk3_1 _ _ _ _ hb (by omega) h1, by decide, by decide, c_pk2_1 _ _ _ _ hb (by omega) h2, by decide, by decide, by decide, by decide, by decide, by decide, ResOk.mk [] [(0, 100000), (1, 1027)] [] _ _ ?_ ⟨[⟨#[97]⟩, ⟨#[98]⟩, ⟨#[99]⟩], ⟨by decide, by decide, by decide⟩, rfl, rfl⟩⟩
    simp [doneC, resOf, resAV, tup, pinR, PV.Le_self, hbs, St.lowers, St.lower, stLe, leEnv, leObs, obLe, injB, pinC, AV.leC, AV.leCs, PV.leC, PV.Le_v, St.get, St.obj, look, rho, isNew, keptC, renH, Mode.ok, Mode.isZ, PV.isVal, PV.isNilSl, List.all_nil, List.all_cons, List.any_nil, List.any_cons, List.map_nil, List.map_cons, res146]
    first | omega | exact ⟨by omega, .refl _⟩
  · refine PCall.by chk146 rfl (ev_dNames_020 nn n f p) ?_
    simp only [VC.holds_split, VC.holds_need, VC.holds_doneP, VC.holds_done, VC.holds_either, VC.holds_call, VC.holds_callE, VC.holds_lend, VC.holds_stop, VC.holds_fail, decide_eq_true_eq, decide_eq_false_iff_not]
    refine ⟨c_pk3_2 _ _ _ _ hb (by omega) h1, by decide, by decide, c_pk2_0 _ _ _ _ hb (by omega) h2, by decide, by decide, by decide, by decide, by decide, by decide, ResOk.mk [] [(0, 100000), (1, 1027)] [] _ _ ?_ ⟨[⟨#[97]⟩], ⟨by decide, by decide, by decide⟩, rfl, rfl⟩⟩
    simp [doneC, resOf, resAV, tup, pinR, PV.Le_self, hbs, St.lowers, St.lower, stLe, leEnv, leObs, obLe, injB, pinC, AV.leC, AV.leCs, PV.leC, PV.Le_v, St.get, St.obj, look, rho, isNew, keptC, renH, Mode.ok, Mode.isZ, PV.isVal, PV.isNilSl, List.all_nil, List.all_cons, List.any_nil, List.any_cons, List.map_nil, List.map_cons, res146]
    first | omega | exact ⟨by omega, .refl _⟩
  · refine PCall.by chk146 rfl (ev_dNames_021 nn n f p) ?_
    simp only [VC.holds_split, VC.holds_need, VC.holds_doneP, VC.holds_done, VC.holds_either, VC.holds_call, VC.holds_callE, VC.holds_lend, VC.holds_stop, VC.holds_fail, decide_eq_true_eq, decide_eq_false_iff_not]
    refine ⟨c_pk3_2 _ _ _ _ hb (by omega) h1, by decide, by decide, c_pk2_1 _ _ _ _ hb (by omega) h2, by decide, by decide, by decide, by decide, by decide, by decide, ResOk.mk [] [(0, 100000), (1, 1027)] [] _ _ ?_ ⟨[⟨#[97]⟩], ⟨by decide, by decide, by decide⟩, rfl, rfl⟩⟩
    simp [doneC, resOf, resAV, tup, pinR, PV.Le_self, hbs, St.lowers, St.lower, stLe, leEnv, leObs, obLe, injB, pinC, AV.leC, AV.leCs, PV.leC, PV.Le_v, St.get, St.obj, look, rho, isNew, keptC, renH, Mode.ok, Mode.isZ, PV.isVal, PV.isNilSl, List.all_nil, List.all_cons, List.any_nil, List.any_cons, List.map_nil, List.map_cons, res146]
    first | omega | exact ⟨by omega, .refl _⟩
theorem c_dNames1 (nn : Bool) (n : Nat) (f : Nat → Int) (p : Nat) (hb : Bytes f) (hp : p ≤ 1000000000 - 2) : PSome Tryd.prog G0 146 [.adr 0 0, AI 1] [(0, RD nn n f p)] (List ByteArray) nmOk nmR (nmH nn n f (p + 2)) := by
  have r1 := pick_rng (n := n) (p := p) (m := 3) hb (by omega) (by omega)
  have r2 := pick_rng (n := n) (p := p + 1) (m := 2) hb (by omega) (by omega)
  have s1 : pickV n f p 3 = 0 ∨ pickV n f p 3 = 1 ∨ pickV n f p 3 = 2 := by omega
  have s2 : pickV n f (p + 1) 2 = 0 ∨ pickV n f (p + 1) 2 = 1 := by omega
  rcases s1 with h1 | h1 | h1 <;> rcases s2 with h2 | h2
  · refine PCall.by chk146 rfl (ev_dNames_100 nn n f p) ?_
    simp only [VC.holds_split, VC.holds_need, VC.holds_doneP, VC.holds_done, VC.holds_either, VC.holds_call, VC.holds_callE, VC.holds_lend, VC.holds_stop, VC.holds_fail, decide_eq_true_eq, decide_eq_false_iff_not]
    refine ⟨c_pk3_0 _ _ _ _ hb (by omega) h1, by decide, by decide, c_pk2_0 _ _ _ _ hb (by omega) h2, by decide, by decide, by decide, by decide, by decide, by decide, ResOk.mk [] [(0, 100000), (1, 1027)] [] _ _ ?_ ⟨[⟨#[107, 101, 121]⟩, ⟨#[118, 97, 108, 117, 101]⟩], ⟨by decide, by decide, by decide⟩, rfl, rfl⟩⟩
    simp [doneC, resOf, resAV, tup, pinR, PV.Le_self, hbs, St.lowers, St.lower, stLe, leEnv, leObs, obLe, injB, pinC, AV.leC, AV.leCs, PV.leC, PV.Le_v, St.get, St.obj, look, rho, isNew, keptC, renH, Mode.ok, Mode.isZ, PV.isVal, PV.isNilSl, List.all_nil, List.all_cons, List.any_nil, List.any_cons, List.map_nil, List.map_cons, res146]
    first | omega | exact ⟨by omega, .refl _⟩
  · refine PCall.by chk146 rfl (ev_dNames_101 nn n f p) ?_
    simp only [VC.holds_split, VC.holds_need, VC.holds_doneP, VC.holds_done, VC.holds_either, VC.holds_call, VC.holds_callE, VC.holds_lend, VC.holds_stop, VC.holds_fail, decide_eq_true_eq, decide_eq_false_iff_not]
    refine ⟨c_pk3_0 _ _ _ _ hb (by omega) h1, by decide, by decide, c_pk2_1 _ _ _ _ hb (by omega) h2, by decide, by decide, by decide, by decide, by decide, by decide, ResOk.mk [] [(0, 100000), (1, 1027)] [] _ _ ?_ ⟨[⟨#[107, 101, 121]⟩, ⟨#[110, 97, 109, 101]⟩, ⟨#[118, 97, 108, 117, 101]⟩], ⟨by decide, by decide, by decide⟩, rfl, rfl⟩⟩
    simp [doneC, resOf, resAV, tup, pinR, PV.Le_self, hbs, St.lowers, St.lower, stLe, leEnv, leObs, obLe, injB, pinC, AV.leC, AV.leCs, PV.leC, PV.Le_v, St.get, St.obj, look, rho, isNew, keptC, renH, Mode.ok, Mode.isZ, PV.isVal, PV.isNilSl, List.all_nil, List.all_cons, List.any_nil, List.any_cons, List.map_nil, List.map_cons, res146]
    first | omega | exact ⟨by omega, .refl _⟩
  · refine PCall.by chk146 rfl (ev_dNames_110 nn n f p) ?_
    simp only [VC.holds_split, VC.holds_need, VC.holds_doneP, VC.holds_done, VC.holds_either, VC.holds_call, VC.holds_callE, VC.holds_lend, VC.holds_stop, VC.holds_fail, decide_eq_true_eq, decide_eq_false_iff_not]
    refine ⟨c_pk3_1 _ _ _ _ hb (by omega) h1, by decide, by decide, c_pk2_0 _ _ _ _ hb (by omega) h2, by decide, by decide, by decide, by decide, by decide, by decide, ResOk.mk [] [(0, 100000), (1, 1027)] [] _ _ ?_ ⟨[⟨#[107, 101, 121]⟩, ⟨#[118, 97, 108, 117, 101]⟩], ⟨by decide, by decide, by decide⟩, rfl, rfl⟩⟩
    simp [doneC, resOf, resAV, tup, pinR, PV.Le_self, hbs, St.lowers, St.lower, stLe, leEnv, leObs, obLe, injB, pinC, AV.leC, AV.leCs, PV.leC, PV.Le_v, St.get, St.obj, look, rho, isNew, keptC, renH, Mode.ok, Mode.isZ, PV.isVal, PV.isNilSl, List.all_nil, List.all_cons, List.any_nil, List.any_cons, List.map_nil, List.map_cons, res146]
    first | omega | exact ⟨by omega, .refl _⟩
  · refine PCall.by chk146 rfl (ev_dNames_111 nn n f p) ?_
    simp only [VC.holds_split, VC.holds_need, VC.holds_doneP, VC.holds_done, VC.holds_either, VC.holds_call, VC.holds_callE, VC.holds_lend, VC.holds_stop, VC.holds_fail, decide_eq_true_eq, decide_eq_false_iff_not]
    refine ⟨c_pk3_1 _ _ _ _ hb (by omega) h1, by decide, by decide, c_pk2_1 _ _ _ _ hb (by omega) h2, by decide, by decide, by decide, by decide, by decide, by decide, ResOk.mk [] [(0, 100000), (1, 1027)] [] _ _ ?_ ⟨[⟨#[107, 101, 121]⟩, ⟨#[110, 97, 109, 101]⟩, ⟨#[118, 97, 108, 117, 101]⟩], ⟨by decide, by decide, by decide⟩, rfl, rfl⟩⟩
    simp [doneC, resOf, resAV, tup, pinR, PV.Le_self, hbs, St.lowers, St.lower, stLe, leEnv, leObs, obLe, injB, pinC, AV.leC, AV.leCs, PV.leC, PV.Le_v, St.get, St.obj, look, rho, isNew, keptC, renH, Mode.ok, Mode.isZ, PV.isVal, PV.isNilSl, List.all_nil, List.all_cons, List.any_nil, List.any_cons, List.map_nil, List.map_cons, res146]
    first | omega | exact ⟨by omega, .refl _⟩
  · refine PCall.by chk146 rfl (ev_dNames_120 nn n f p) ?_
    simp only [VC.holds_split, VC.holds_need, VC.holds_doneP, VC.holds_done, VC.holds_either, VC.holds_call, VC.holds_callE, VC.holds_lend, VC.holds_stop, VC.holds_fail, decide_eq_true_eq, decide_eq_false_iff_not]
    refine ⟨c_pk3_2 _ _ _ _ hb (by omega) h1, by decide, by decide, c_pk2_0 _ _ _ _ hb (by omega) h2, by decide, by decide, by decide, by decide, by decide, by decide, ResOk.mk [] [(0, 100000), (1, 1027)] [] _ _ ?_ ⟨[⟨#[107, 101, 121]⟩, ⟨#[118, 97, 108, 117, 101]⟩], ⟨by decide, by decide, by decide⟩, rfl, rfl⟩⟩
    simp [doneC, resOf, resAV, tup, pinR, PV.Le_self, hbs, St.lowers, St.lower, stLe, leEnv, leObs, obLe, injB, pinC, AV.leC, AV.leCs, PV.leC, PV.Le_v, St.get, St.obj, look, rho, isNew, keptC, renH, Mode.ok, Mode.isZ, PV.isVal, PV.isNilSl, List.all_nil, List.all_cons, List.any_nil, List.any_cons, List.map_nil, List.map_cons, res146]
    first | omega | exact ⟨by omega, .refl _⟩
  · refine PCall.by chk146 rfl (ev_dNames_121 nn n f p) ?_
    simp only [VC.holds_split, VC.holds_need, VC.holds_doneP, VC.holds_done, VC.holds_either, VC.holds_call, VC.holds_callE, VC.holds_lend, VC.holds_stop, VC.holds_fail, decide_eq_true_eq, decide_eq_false_iff_not]
    refine ⟨c_pk3_2 _ _ _ _ hb (by omega) h1, by decide, by decide, c_pk2_1 _ _ _ _ hb (by omega) h2, by decide, by decide, by decide, by decide, by decide, by decide, ResOk.mk [] [(0, 100000), (1, 1027)] [] _ _ ?_ ⟨[⟨#[107, 101, 121]⟩, ⟨#[110, 97, 109, 101]⟩, ⟨#[118, 97, 108, 117, 101]⟩], ⟨by decide, by decide, by decide⟩, rfl, rfl⟩⟩
    simp [doneC, resOf, resAV, tup, pinR, PV.Le_self, hbs, St.lowers, St.lower, stLe, leEnv, leObs, obLe, injB, pinC, AV.leC, AV.leCs, PV.leC, PV.Le_v, St.get, St.obj, look, rho, isNew, keptC, renH, Mode.ok, Mode.isZ, PV.isVal, PV.isNilSl, List.all_nil, List.all_cons, List.any_nil, List.any_cons, List.map_nil, List.map_cons, res146]
    first | omega | exact ⟨by omega, .refl _⟩
theorem c_dNames2 (nn : Bool) (n : Nat) (f : Nat → Int) (p : Nat) (hb : Bytes f) (hp : p ≤ 1000000000 - 2) : PSome Tryd.prog G0 146 [.adr 0 0, AI 2] [(0, RD nn n f p)] (List ByteArray) nmOk nmR (nmH nn n f (p + 2)) := by
  have r1 := pick_rng (n := n) (p := p) (m := 3) hb (by omega) (by omega)
  have r2 := pick_rng (n := n) (p := p + 1) (m := 2) hb (by omega) (by omega)
  have s1 : pickV n f p 3 = 0 ∨ pickV n f p 3 = 1 ∨ pickV n f p 3 = 2 := by omega
  have s2 : pickV n f (p + 1) 2 = 0 ∨ pickV n f (p + 1) 2 = 1 := by omega
  rcases s1 with h1 | h1 | h1 <;> rcases s2 with h2 | h2
  · refine PCall.by chk146 rfl (ev_dNames_200 nn n f p) ?_
    simp only [VC.holds_split, VC.holds_need, VC.holds_doneP, VC.holds_done, VC.holds_either, VC.holds_call, VC.holds_callE, VC.holds_lend, VC.holds_stop, VC.holds_fail, decide_eq_true_eq, decide_eq_false_iff_not]
    refine ⟨c_pk3_0 _ _ _ _ hb (by omega) h1, by decide, by decide, c_pk2_0 _ _ _ _ hb (by omega) h2, by decide, by decide, by decide, by decide, by decide, by decide, ResOk.mk [] [(0, 100000), (1, 1027)] [] _ _ ?_ ⟨[⟨#[98]⟩, ⟨#[107, 101, 121]⟩], ⟨by decide, by decide, by decide⟩, rfl, rfl⟩⟩
    simp [doneC, resOf, resAV, tup, pinR, PV.Le_self, hbs, St.lowers, St.lower, stLe, leEnv, leObs, obLe, injB, pinC, AV.leC, AV.leCs, PV.leC, PV.Le_v, St.get, St.obj, look, rho, isNew, keptC, renH, Mode.ok, Mode.isZ, PV.isVal, PV.isNilSl, List.all_nil, List.all_cons, List.any_nil, List.any_cons, List.map_nil, List.map_cons, res146]
    first | omega | exact ⟨by omega, .refl _⟩
  · refine PCall.by chk146 rfl (ev_dNames_201 nn n f p) ?_
    simp only [VC.holds_split, VC.holds_need, VC.holds_doneP, VC.holds_done, VC.holds_either, VC.holds_call, VC.holds_callE, VC.holds_lend, VC.holds_stop, VC.holds_fail, decide_eq_true_eq, decide_eq_false_iff_not]
    refine ⟨c_pk3_0 _ _ _ _ hb (by omega) h1, by decide, by decide, c_pk2_1 _ _ _ _ hb (by omega) h2, by decide, by decide, by decide, by decide, by decide, by decide, ResOk.mk [] [(0, 100000), (1, 1027)] [] _ _ ?_ ⟨[⟨#[98]⟩, ⟨#[107, 101, 121]⟩], ⟨by decide, by decide, by decide⟩, rfl, rfl⟩⟩
    simp [doneC, resOf, resAV, tup, pinR, PV.Le_self, hbs, St.lowers, St.lower, stLe, leEnv, leObs, obLe, injB, pinC, AV.leC, AV.leCs, PV.leC, PV.Le_v, St.get, St.obj, look, rho, isNew, keptC, renH, Mode.ok, Mode.isZ, PV.isVal, PV.isNilSl, List.all_nil, List.all_cons, List.any_nil, List.any_cons, List.map_nil, List.map_cons, res146]
    first | omega | exact ⟨by omega, .refl _⟩
  · refine PCall.by chk146 rfl (ev_dNames_210 nn n f p) ?_
    simp only [VC.holds_split, VC.holds_need, VC.holds_doneP, VC.holds_done, VC.holds_either, VC.holds_call, VC.holds_callE, VC.holds_lend, VC.holds_stop, VC.holds_fail, decide_eq_true_eq, decide_eq_false_iff_not]
    refine ⟨c_pk3_1 _ _ _ _ hb (by omega) h1, by decide, by decide, c_pk2_0 _ _ _ _ hb (by omega) h2, by decide, by decide, by decide, by decide, by decide, by decide, ResOk.mk [] [(0, 100000), (1, 1027)] [] _ _ ?_ ⟨[⟨#[98]⟩, ⟨#[107, 101, 121]⟩], ⟨by decide, by decide, by decide⟩, rfl, rfl⟩⟩
    simp [doneC, resOf, resAV, tup, pinR, PV.Le_self, hbs, St.lowers, St.lower, stLe, leEnv, leObs, obLe, injB, pinC, AV.leC, AV.leCs, PV.leC, PV.Le_v, St.get, St.obj, look, rho, isNew, keptC, renH, Mode.ok, Mode.isZ, PV.isVal, PV.isNilSl, List.all_nil, List.all_cons, List.any_nil, List.any_cons, List.map_nil, List.map_cons, res146]
    first | omega | exact ⟨by omega, .refl _⟩
  · refine PCall.by chk146 rfl (ev_dNames_211 nn n f p) ?_
    simp only [VC.holds_split, VC.holds_need, VC.holds_doneP, VC.holds_done, VC.holds_either, VC.holds_call, VC.holds_callE, VC.holds_lend, VC.holds_stop, VC.holds_fail, decide_eq_true_eq, decide_eq_false_iff_not]
    refine ⟨c_pk3_1 _ _ _ _ hb (by omega) h1, by decide, by decide, c_pk2_1 _ _ _ _ hb (by omega) h2, by decide, by decide, by decide, by decide, by decide, by decide, ResOk.mk [] [(0, 100000), (1, 1027)] [] _ _ ?_ ⟨[⟨#[98]⟩, ⟨#[107, 101, 121]⟩], ⟨by decide, by decide, by decide⟩, rfl, rfl⟩⟩
    simp [doneC, resOf, resAV, tup, pinR, PV.Le_self, hbs, St.lowers, St.lower, stLe, leEnv, leObs, obLe, injB, pinC, AV.leC, AV.leCs, PV.leC, PV.Le_v, St.get, St.obj, look, rho, isNew, keptC, renH, Mode.ok, Mode.isZ, PV.isVal, PV.isNilSl, List.all_nil, List.all_cons, List.any_nil, List.any_cons, List.map_nil, List.map_cons, res146]
    first | omega | exact ⟨by omega, .refl _⟩
  · refine PCall.by chk146 rfl (ev_dNames_220 nn n f p) ?_
    simp only [VC.holds_split, VC.holds_need, VC.holds_doneP, VC.holds_done, VC.holds_either, VC.holds_call, VC.holds_callE, VC.holds_lend, VC.holds_stop, VC.holds_fail, decide_eq_true_eq, decide_eq_false_iff_not]
    refine ⟨c_pk3_2 _ _ _ _ hb (by omega) h1, by decide, by decide, c_pk2_0 _ _ _ _ hb (by omega) h2, by decide, by decide, by decide, by decide, by decide, by decide, ResOk.mk [] [(0, 100000), (1, 1027)] [] _ _ ?_ ⟨[⟨#[98]⟩, ⟨#[107, 101, 121]⟩], ⟨by decide, by decide, by decide⟩, rfl, rfl⟩⟩
    simp [doneC, resOf, resAV, tup, pinR, PV.Le_self, hbs, St.lowers, St.lower, stLe, leEnv, leObs, obLe, injB, pinC, AV.leC, AV.leCs, PV.leC, PV.Le_v, St.get, St.obj, look, rho, isNew, keptC, renH, Mode.ok, Mode.isZ, PV.isVal, PV.isNilSl, List.all_nil, List.all_cons, List.any_nil, List.any_cons, List.map_nil, List.map_cons, res146]
    first | omega | exact ⟨by omega, .refl _⟩
  · refine PCall.by chk146 rfl (ev_dNames_221 nn n f p) ?_
    simp only [VC.holds_split, VC.holds_need, VC.holds_doneP, VC.holds_done, VC.holds_either, VC.holds_call, VC.holds_callE, VC.holds_lend, VC.holds_stop, VC.holds_fail, decide_eq_true_eq, decide_eq_false_iff_not]
    refine ⟨c_pk3_2 _ _ _ _ hb (by omega) h1, by decide, by decide, c_pk2_1 _ _ _ _ hb (by omega) h2, by decide, by decide, by decide, by decide, by decide, by decide, ResOk.mk [] [(0, 100000), (1, 1027)] [] _ _ ?_ ⟨[⟨#[98]⟩, ⟨#[107, 101, 121]⟩], ⟨by decide, by decide, by decide⟩, rfl, rfl⟩⟩
    simp [doneC, resOf, resAV, tup, pinR, PV.Le_self, hbs, St.lowers, St.lower, stLe, leEnv, leObs, obLe, injB, pinC, AV.leC, AV.leCs, PV.leC, PV.Le_v, St.get, St.obj, look, rho, isNew, keptC, renH, Mode.ok, Mode.isZ, PV.isVal, PV.isNilSl, List.all_nil, List.all_cons, List.any_nil, List.any_cons, List.map_nil, List.map_cons, res146]
    first | omega | exact ⟨by omega, .refl _⟩
def in_dRows (nn : Bool) (n : Nat) (f : Nat → Int) (p : Nat) (wd mn : Int) := (G0, res147, [(0, RD nn n f p)], [Item.ir ir147], start [.adr 0 0, AI wd, AI mn] [(0, RD nn n f p)])
theorem ev_dRows : ∀ (nn : Bool) (n : Nat) (f : Nat → Int) (p : Nat) (wd mn : Int),
  ev G0 res147 [((0 : Nat), RD nn n f p)] (3000 : Nat) Or.nil [Item.ir ir147]
      (start [AV.adr (0 : Nat) (0 : Nat), AI wd, AI mn] [((0 : Nat), RD nn n f p)]) =
    VC.loop ir147_L4 [Item.bend (0 : Nat), Item.ir ir147_T5]
      (St.mk
        [((0 : Nat), AV.adr (100000 : Nat) (0 : Nat)), ((1 : Nat), AV.p true (PV.v (Value.int IntKind.i64 wd))),
          ((2 : Nat), AV.p true (PV.v (Value.int IntKind.i64 mn))),
          ((6 : Nat), AV.p true (PV.v (Value.slice none (0 : Nat) (0 : Nat)))), ((7 : Nat), AV.own (11 : Nat)),
          ((8 : Nat), AV.p true (PV.v (Value.int IntKind.i64 (0 : Int))))]
        [((100000 : Nat),
            Ob.box [AV.p false (PV.sl nn (1 : Nat) n (PB f)), AV.p true (PV.v (Value.int IntKind.i64 (↑p : Int)))]),
          ((11 : Nat),
            Ob.row Mode.u true (1 : Nat) (0 : Nat)
              (setG [] fun (x j : Nat) => PV.v ([Value.slice none (0 : Nat) (0 : Nat)].getD j undef)) [])]) := by
  intros; kernel_rfl
def badNames : List ByteArray := [⟨#[]⟩, ⟨#[65]⟩, ⟨#[97, 49]⟩, ⟨#[115, 101, 108, 101, 99, 116]⟩, ⟨#[108, 105, 109, 105, 116]⟩, ⟨#[97, 98, 99, 100, 101, 102, 103, 104, 105]⟩, ⟨#[97, 32, 98]⟩]
def goodNames : List ByteArray := [⟨#[97]⟩, ⟨#[98]⟩, ⟨#[99]⟩, ⟨#[107, 101, 121]⟩, ⟨#[110, 97, 109, 101]⟩, ⟨#[118, 97, 108, 117, 101]⟩, ⟨#[116, 111, 116, 97, 108]⟩, ⟨#[99, 111, 117, 110, 116]⟩]
def nameV (n : Nat) (f : Nat → Int) (p : Nat) (m : Int) : ByteArray := if oddV n f p m then litS badNames (pickV n f (oddP p m) 7).toNat else litS goodNames (litI [0, 0, 1, 1, 2, 3, 4, 5, 6, 7] (pickV n f (oddP p m) 10).toNat).toNat
theorem c_dName (nn : Bool) (n : Nat) (f : Nat → Int) (p : Nat) (m : Int) (hb : Bytes f) (hp : p ≤ 1000000000 - 2) : PObj Tryd.prog G0 148 [.adr 0 0, AI m] [(0, RD nn n f p)] (AT (nameV n f p m)) [(0, RD nn n f (oddP p m + 1))] := by
  refine PObj.by chk148 rfl (ev_dName nn n f p m) ?_
  simp only [VC.holds_split, VC.holds_need, VC.holds_doneP, VC.holds_done, VC.holds_either, VC.holds_call, VC.holds_callE, VC.holds_lend, VC.holds_stop, VC.holds_fail, decide_eq_true_eq, decide_eq_false_iff_not]
  have hop : oddP p m ≤ p + 1 := by unfold oddP; split <;> omega
  have r1 := pick_rng (n := n) (p := oddP p m) (m := 7) hb (by omega) (by omega)
  have r2 := pick_rng (n := n) (p := oddP p m) (m := 10) hb (by omega) (by omega)
  have r3 := lit_rng (lo := 0) (hi := 7) (l := [0, 0, 1, 1, 2, 3, 4, 5, 6, 7]) (by decide) (i := (pickV n f (oddP p m) 10).toNat) (by simp only [List.length_cons, List.length_nil]; omega)
  refine ⟨c_odd _ _ _ _ _ hb (by omega), fun h => ⟨c_pick _ _ _ _ _ hb (by omega), ⟨r1.1, by omega⟩, by omega, ResOk.mk [] [(0, 100000)] [] _ _ ?_ ⟨rfl, rfl⟩⟩, fun h => ⟨c_pick _ _ _ _ _ hb (by omega), ⟨r2.1, by omega⟩, by omega, ⟨r3.1, by omega⟩, by omega, ResOk.mk [] [(0, 100000)] [] _ _ ?_ ⟨rfl, rfl⟩⟩⟩
  · simp [doneC, resOf, resAV, tup, pinR, PV.Le_self, hbs, St.lowers, St.lower, stLe, leEnv, leObs, obLe, injB, pinC, AV.leC, AV.leCs, PV.leC, PV.Le_v, St.get, St.obj, look, rho, isNew, keptC, renH, Mode.ok, Mode.isZ, PV.isVal, PV.isNilSl, List.all_nil, List.all_cons, List.any_nil, List.any_cons, List.map_nil, List.map_cons, res148, nameV, h, badNames]
  · simp [doneC, resOf, resAV, tup, pinR, PV.Le_self, hbs, St.lowers, St.lower, stLe, leEnv, leObs, obLe, injB, pinC, AV.leC, AV.leCs, PV.leC, PV.Le_v, St.get, St.obj, look, rho, isNew, keptC, renH, Mode.ok, Mode.isZ, PV.isVal, PV.isNilSl, List.all_nil, List.all_cons, List.any_nil, List.any_cons, List.map_nil, List.map_cons, res148, nameV, h, goodNames]
def cellV (n : Nat) (f : Nat → Int) (q : Nat) : Int := litI [pickV n f q 4, IntKind.i64.wrap (pickV n f (q + 1) 7 - 3), pickV n f (q + 1 + 1) 256] (litI [0, 0, 0, 1, 2] (pickV n f (q + 1 + 1 + 1) 5).toNat).toNat
def st_dRows (nn : Bool) (n : Nat) (f : Nat → Int) (p wd mn : Nat) (k : Nat) : St := ⟨[(0, .adr 100000 0), (1, AI wd), (2, AI mn), (7, .own 11), (8, AI k)], [(100000, RD nn n f (p + 4 * (k * wd))), (11, .row .u false 1 k (RR (fun _ => wd) fun i j => cellV n f (p + 4 * (i * wd) + 4 * j)) [])]⟩
def r_dRows (nn : Bool) (n : Nat) (f : Nat → Int) (p wd mn : Nat) (I : Nat → St → Prop) (k : Nat) := (G0, res147, [(0, RD nn n f p)], [Item.ir ir147_L4, .lend (I k), Item.bend 0, Item.ir ir147_T5], st_dRows nn n f p wd mn k)
theorem evr_dRows : ∀ (nn : Bool) (n : Nat) (f : Nat → Int) (p wd mn : Nat) (I : Nat → St → Prop) (k : Nat),
  ev G0 res147 [((0 : Nat), RD nn n f p)] (3000 : Nat) (Or.nil.split Or.nil)
      [Item.ir ir147_L4, Item.lend (I k), Item.bend (0 : Nat), Item.ir ir147_T5] (st_dRows nn n f p wd mn k) =
    VC.split (decide ((↑k : Int) < (↑mn : Int)))
      (VC.loop ir147_L1
        [Item.bend (2 : Nat), Item.ir ir147_T2, Item.bend (1 : Nat), Item.ir ir147_T3, Item.lend (I k),
          Item.bend (0 : Nat), Item.ir ir147_T5]
        (St.mk
          [((0 : Nat), AV.adr (100000 : Nat) (0 : Nat)),
            ((1 : Nat), AV.p true (PV.v (Value.int IntKind.i64 (↑wd : Int)))),
            ((2 : Nat), AV.p true (PV.v (Value.int IntKind.i64 (↑mn : Int)))), ((7 : Nat), AV.own (11 : Nat)),
            ((8 : Nat), AV.p true (PV.v (Value.int IntKind.i64 (↑k : Int)))),
            ((14 : Nat), AV.p true (PV.v (Value.bool (decide ((↑k : Int) < (↑mn : Int)))))),
            ((9 : Nat), AV.own (17 : Nat)), ((10 : Nat), AV.p true (PV.v (Value.int IntKind.i64 (0 : Int))))]
          [((100000 : Nat),
              Ob.box
                [AV.p false (PV.sl nn (1 : Nat) n (PB f)),
                  AV.p true (PV.v (Value.int IntKind.i64 (↑(p + (4 : Nat) * (k * wd)) : Int)))]),
            ((11 : Nat),
              Ob.row Mode.u false (1 : Nat) k
                (RR (fun (x : Nat) => wd) fun (i j : Nat) => cellV n f (p + (4 : Nat) * (i * wd) + (4 : Nat) * j)) []),
            ((17 : Nat),
              Ob.row Mode.u true (1 : Nat) (0 : Nat)
                (setG [] fun (x j : Nat) => PV.v ([Value.int IntKind.i64 (0 : Int)].getD j undef)) [])]))
      (VC.done
        (St.mk
          [((0 : Nat), AV.adr (100000 : Nat) (0 : Nat)),
            ((1 : Nat), AV.p true (PV.v (Value.int IntKind.i64 (↑wd : Int)))),
            ((2 : Nat), AV.p true (PV.v (Value.int IntKind.i64 (↑mn : Int)))), ((7 : Nat), AV.own (11 : Nat)),
            ((8 : Nat), AV.p true (PV.v (Value.int IntKind.i64 (↑k : Int)))),
            ((14 : Nat), AV.p true (PV.v (Value.bool (decide ((↑k : Int) < (↑mn : Int)))))),
            ((6 : Nat), AV.own (11 : Nat))]
          [((100000 : Nat),
              Ob.box
                [AV.p false (PV.sl nn (1 : Nat) n (PB f)),
                  AV.p true (PV.v (Value.int IntKind.i64 (↑(p + (4 : Nat) * (k * wd)) : Int)))]),
            ((11 : Nat),
              Ob.row Mode.u false (1 : Nat) k
                (RR (fun (x : Nat) => wd) fun (i j : Nat) => cellV n f (p + (4 : Nat) * (i * wd) + (4 : Nat) * j))
                [])])) := by
  intros; kernel_rfl
def st_dRows2 (nn : Bool) (n : Nat) (f : Nat → Int) (p wd mn : Nat) (k j : Nat) : St := ⟨[(0, .adr 100000 0), (1, AI wd), (2, AI mn), (7, .own 11), (8, AI k), (9, .own 17), (10, AI j)], [(100000, RD nn n f (p + 4 * (k * wd) + 4 * j)), (11, .row .u false 1 k (RR (fun _ => wd) fun i j => cellV n f (p + 4 * (i * wd) + 4 * j)) []), (17, .row .u false 1 j (fun j _ => PI (cellV n f (p + 4 * (k * wd) + 4 * j))) [])]⟩
def r_dRows2 (nn : Bool) (n : Nat) (f : Nat → Int) (p wd mn : Nat) (I : Nat → St → Prop) (k : Nat) (J : Nat → St → Prop) (j : Nat) := (G0, res147, [(0, RD nn n f p)], [Item.ir ir147_L1, .lend (J j), Item.bend 2, Item.ir ir147_T2, Item.bend 1, Item.ir ir147_T3, .lend (I k), Item.bend 0, Item.ir ir147_T5], st_dRows2 nn n f p wd mn k j)
theorem evr_dRows2 : ∀ (nn : Bool) (n : Nat) (f : Nat → Int) (p wd mn : Nat) (I : Nat → St → Prop) (k : Nat) (J : Nat → St → Prop) (j : Nat),
  ev G0 res147 [((0 : Nat), RD nn n f p)] (3000 : Nat)
      ((Or.call [(100000 : Nat)] (AI (pickV n f (p + (4 : Nat) * (k * wd) + (4 : Nat) * j) (4 : Int)))
            [((0 : Nat), RD nn n f (p + (4 : Nat) * (k * wd) + (4 : Nat) * j + (1 : Nat)))]
            (Or.call [(100000 : Nat)] (AI (pickV n f (p + (4 : Nat) * (k * wd) + (4 : Nat) * j + (1 : Nat)) (7 : Int)))
              [((0 : Nat), RD nn n f (p + (4 : Nat) * (k * wd) + (4 : Nat) * j + (1 : Nat) + (1 : Nat)))]
              (Or.call [(100000 : Nat)]
                (AI (pickV n f (p + (4 : Nat) * (k * wd) + (4 : Nat) * j + (1 : Nat) + (1 : Nat)) (256 : Int)))
                [((0 : Nat), RD nn n f (p + (4 : Nat) * (k * wd) + (4 : Nat) * j + (1 : Nat) + (1 : Nat) + (1 : Nat)))]
                (Or.call [(100000 : Nat)]
                  (AI
                    (pickV n f (p + (4 : Nat) * (k * wd) + (4 : Nat) * j + (1 : Nat) + (1 : Nat) + (1 : Nat))
                      (5 : Int)))
                  [((0 : Nat),
                      RD nn n f
                        (p + (4 : Nat) * (k * wd) + (4 : Nat) * j + (1 : Nat) + (1 : Nat) + (1 : Nat) + (1 : Nat)))]
                  Or.nil)))).split
        Or.nil)
      [Item.ir ir147_L1, Item.lend (J j), Item.bend (2 : Nat), Item.ir ir147_T2, Item.bend (1 : Nat), Item.ir ir147_T3,
        Item.lend (I k), Item.bend (0 : Nat), Item.ir ir147_T5]
      (st_dRows2 nn n f p wd mn k j) =
    VC.split (decide ((↑j : Int) < (↑wd : Int)))
      (VC.call (87 : Nat) [AV.adr (0 : Nat) (0 : Nat), AV.p true (PV.v (Value.int IntKind.i64 (4 : Int)))]
        [((0 : Nat),
            Ob.box
              [AV.p false (PV.sl nn (1 : Nat) n (PB f)),
                AV.p true (PV.v (Value.int IntKind.i64 (↑(p + (4 : Nat) * (k * wd) + (4 : Nat) * j) : Int)))])]
        (AI (pickV n f (p + (4 : Nat) * (k * wd) + (4 : Nat) * j) (4 : Int)))
        [((0 : Nat), RD nn n f (p + (4 : Nat) * (k * wd) + (4 : Nat) * j + (1 : Nat)))]
        (VC.call (87 : Nat) [AV.adr (0 : Nat) (0 : Nat), AV.p true (PV.v (Value.int IntKind.i64 (7 : Int)))]
          [((0 : Nat),
              Ob.box
                [AV.p false (PV.sl nn (1 : Nat) n (PB f)),
                  AV.p true
                    (PV.v (Value.int IntKind.i64 (↑(p + (4 : Nat) * (k * wd) + (4 : Nat) * j + (1 : Nat)) : Int)))])]
          (AI (pickV n f (p + (4 : Nat) * (k * wd) + (4 : Nat) * j + (1 : Nat)) (7 : Int)))
          [((0 : Nat), RD nn n f (p + (4 : Nat) * (k * wd) + (4 : Nat) * j + (1 : Nat) + (1 : Nat)))]
          (VC.call (87 : Nat) [AV.adr (0 : Nat) (0 : Nat), AV.p true (PV.v (Value.int IntKind.i64 (256 : Int)))]
            [((0 : Nat),
                Ob.box
                  [AV.p false (PV.sl nn (1 : Nat) n (PB f)),
                    AV.p true
                      (PV.v
                        (Value.int IntKind.i64
                          (↑(p + (4 : Nat) * (k * wd) + (4 : Nat) * j + (1 : Nat) + (1 : Nat)) : Int)))])]
            (AI (pickV n f (p + (4 : Nat) * (k * wd) + (4 : Nat) * j + (1 : Nat) + (1 : Nat)) (256 : Int)))
            [((0 : Nat), RD nn n f (p + (4 : Nat) * (k * wd) + (4 : Nat) * j + (1 : Nat) + (1 : Nat) + (1 : Nat)))]
            (VC.call (87 : Nat) [AV.adr (0 : Nat) (0 : Nat), AV.p true (PV.v (Value.int IntKind.i64 (5 : Int)))]
              [((0 : Nat),
                  Ob.box
                    [AV.p false (PV.sl nn (1 : Nat) n (PB f)),
                      AV.p true
                        (PV.v
                          (Value.int IntKind.i64
                            (↑(p + (4 : Nat) * (k * wd) + (4 : Nat) * j + (1 : Nat) + (1 : Nat) + (1 : Nat)) : Int)))])]
              (AI (pickV n f (p + (4 : Nat) * (k * wd) + (4 : Nat) * j + (1 : Nat) + (1 : Nat) + (1 : Nat)) (5 : Int)))
              [((0 : Nat),
                  RD nn n f (p + (4 : Nat) * (k * wd) + (4 : Nat) * j + (1 : Nat) + (1 : Nat) + (1 : Nat) + (1 : Nat)))]
              (VC.need
                ((0 : Int) ≤
                    pickV n f (p + (4 : Nat) * (k * wd) + (4 : Nat) * j + (1 : Nat) + (1 : Nat) + (1 : Nat)) (5 : Int) ∧
                  (pickV n f (p + (4 : Nat) * (k * wd) + (4 : Nat) * j + (1 : Nat) + (1 : Nat) + (1 : Nat))
                        (5 : Int)).toNat <
                    (5 : Nat))
                (VC.need
                  ((pickV n f (p + (4 : Nat) * (k * wd) + (4 : Nat) * j + (1 : Nat) + (1 : Nat) + (1 : Nat))
                        (5 : Int)).toNat <
                    (5 : Nat))
                  (VC.need
                    ((0 : Int) ≤
                        litI [(0 : Int), (0 : Int), (0 : Int), (1 : Int), (2 : Int)]
                          (pickV n f (p + (4 : Nat) * (k * wd) + (4 : Nat) * j + (1 : Nat) + (1 : Nat) + (1 : Nat))
                              (5 : Int)).toNat ∧
                      (litI [(0 : Int), (0 : Int), (0 : Int), (1 : Int), (2 : Int)]
                            (pickV n f (p + (4 : Nat) * (k * wd) + (4 : Nat) * j + (1 : Nat) + (1 : Nat) + (1 : Nat))
                                (5 : Int)).toNat).toNat <
                        (3 : Nat))
                    (VC.need
                      ((litI [(0 : Int), (0 : Int), (0 : Int), (1 : Int), (2 : Int)]
                            (pickV n f (p + (4 : Nat) * (k * wd) + (4 : Nat) * j + (1 : Nat) + (1 : Nat) + (1 : Nat))
                                (5 : Int)).toNat).toNat <
                        (3 : Nat))
                      (VC.need
                        (((j + (1 : Nat)) * (8 : Nat) ≤ (140737488355328 : Nat) ∧
                            (↑(j + (1 : Nat)) : Int) ≤ (9223372036854775807 : Int)) ∧
                          allV (1 : Nat) (1 : Nat)
                            (setG
                              [((0 : Nat), (0 : Nat),
                                  PV.v
                                    (Value.int IntKind.i64
                                      (litI
                                        [pickV n f (p + (4 : Nat) * (k * wd) + (4 : Nat) * j) (4 : Int),
                                          IntKind.i64.wrap
                                            (pickV n f (p + (4 : Nat) * (k * wd) + (4 : Nat) * j + (1 : Nat))
                                                (7 : Int) -
                                              (3 : Int)),
                                          pickV n f (p + (4 : Nat) * (k * wd) + (4 : Nat) * j + (1 : Nat) + (1 : Nat))
                                            (256 : Int)]
                                        (litI [(0 : Int), (0 : Int), (0 : Int), (1 : Int), (2 : Int)]
                                            (pickV n f
                                                (p + (4 : Nat) * (k * wd) + (4 : Nat) * j + (1 : Nat) + (1 : Nat) +
                                                  (1 : Nat))
                                                (5 : Int)).toNat).toNat)))]
                              fun (x j_1 : Nat) => PV.v ([Value.int IntKind.i64 (0 : Int)].getD j_1 undef)))
                        (VC.lend (J j)
                          (St.mk
                            [((0 : Nat), AV.adr (100000 : Nat) (0 : Nat)),
                              ((1 : Nat), AV.p true (PV.v (Value.int IntKind.i64 (↑wd : Int)))),
                              ((2 : Nat), AV.p true (PV.v (Value.int IntKind.i64 (↑mn : Int)))),
                              ((7 : Nat), AV.own (11 : Nat)),
                              ((8 : Nat), AV.p true (PV.v (Value.int IntKind.i64 (↑k : Int)))),
                              ((9 : Nat), AV.own (40 : Nat)),
                              ((10 : Nat),
                                AV.p true (PV.v (Value.int IntKind.i64 (IntKind.i64.wrap ((↑j : Int) + (1 : Int)))))),
                              ((20 : Nat), AV.p true (PV.v (Value.bool (decide ((↑j : Int) < (↑wd : Int))))))]
                            [((100000 : Nat),
                                Ob.box
                                  [AV.p false (PV.sl nn (1 : Nat) n (PB f)),
                                    AV.p true
                                      (PV.v
                                        (Value.int IntKind.i64
                                          (↑(p + (4 : Nat) * (k * wd) + (4 : Nat) * j + (1 : Nat) + (1 : Nat) +
                                                  (1 : Nat) +
                                                (1 : Nat)) :
                                            Int)))]),
                              ((11 : Nat),
                                Ob.row Mode.u false (1 : Nat) k
                                  (RR (fun (x : Nat) => wd) fun (i j_1 : Nat) =>
                                    cellV n f (p + (4 : Nat) * (i * wd) + (4 : Nat) * j_1))
                                  []),
                              ((40 : Nat),
                                Ob.row Mode.u false (1 : Nat) (j + (1 : Nat))
                                  (fun (a b : Nat) =>
                                    if a < j then PI (cellV n f (p + (4 : Nat) * (k * wd) + (4 : Nat) * a))
                                    else
                                      setG
                                        [((0 : Nat), (0 : Nat),
                                            PV.v
                                              (Value.int IntKind.i64
                                                (litI
                                                  [pickV n f (p + (4 : Nat) * (k * wd) + (4 : Nat) * j) (4 : Int),
                                                    IntKind.i64.wrap
                                                      (pickV n f (p + (4 : Nat) * (k * wd) + (4 : Nat) * j + (1 : Nat))
                                                          (7 : Int) -
                                                        (3 : Int)),
                                                    pickV n f
                                                      (p + (4 : Nat) * (k * wd) + (4 : Nat) * j + (1 : Nat) + (1 : Nat))
                                                      (256 : Int)]
                                                  (litI [(0 : Int), (0 : Int), (0 : Int), (1 : Int), (2 : Int)]
                                                      (pickV n f
                                                          (p + (4 : Nat) * (k * wd) + (4 : Nat) * j + (1 : Nat) +
                                                              (1 : Nat) +
                                                            (1 : Nat))
                                                          (5 : Int)).toNat).toNat)))]
                                        (fun (x j_1 : Nat) => PV.v ([Value.int IntKind.i64 (0 : Int)].getD j_1 undef))
                                        (a - j) b)
                                  [])])))))))))))
      (VC.need
        (((k + (1 : Nat)) * (24 : Nat) ≤ (140737488355328 : Nat) ∧
            (↑(k + (1 : Nat)) : Int) ≤ (9223372036854775807 : Int)) ∧
          allOne (1 : Nat) (1 : Nat)
            (setG
              [((0 : Nat), (0 : Nat),
                  PV.sl false (1 : Nat) j fun (j_1 x : Nat) =>
                    PI (cellV n f (p + (4 : Nat) * (k * wd) + (4 : Nat) * j_1)))]
              fun (x j_1 : Nat) => PV.v ([Value.slice none (0 : Nat) (0 : Nat)].getD j_1 undef)))
        (VC.lend (I k)
          (St.mk
            [((0 : Nat), AV.adr (100000 : Nat) (0 : Nat)),
              ((1 : Nat), AV.p true (PV.v (Value.int IntKind.i64 (↑wd : Int)))),
              ((2 : Nat), AV.p true (PV.v (Value.int IntKind.i64 (↑mn : Int)))), ((7 : Nat), AV.own (44 : Nat)),
              ((8 : Nat), AV.p true (PV.v (Value.int IntKind.i64 (IntKind.i64.wrap ((↑k : Int) + (1 : Int)))))),
              ((9 : Nat), AV.own (17 : Nat)), ((10 : Nat), AV.p true (PV.v (Value.int IntKind.i64 (↑j : Int)))),
              ((20 : Nat), AV.p true (PV.v (Value.bool (decide ((↑j : Int) < (↑wd : Int))))))]
            [((100000 : Nat),
                Ob.box
                  [AV.p false (PV.sl nn (1 : Nat) n (PB f)),
                    AV.p true (PV.v (Value.int IntKind.i64 (↑(p + (4 : Nat) * (k * wd) + (4 : Nat) * j) : Int)))]),
              ((44 : Nat),
                Ob.row Mode.u false (1 : Nat) (k + (1 : Nat))
                  (fun (a b : Nat) =>
                    if a < k then
                      RR (fun (x : Nat) => wd)
                        (fun (i j_1 : Nat) => cellV n f (p + (4 : Nat) * (i * wd) + (4 : Nat) * j_1)) a b
                    else
                      setG
                        [((0 : Nat), (0 : Nat),
                            PV.sl false (1 : Nat) j fun (j_1 x : Nat) =>
                              PI (cellV n f (p + (4 : Nat) * (k * wd) + (4 : Nat) * j_1)))]
                        (fun (x j_1 : Nat) => PV.v ([Value.slice none (0 : Nat) (0 : Nat)].getD j_1 undef)) (a - k) b)
                  [])]))) := by
  intros; kernel_rfl
theorem sl_leD {n n' : Nat} {f f' : Nat → Nat → PV} (hn : n = n') (h : ∀ i, i < n → PV.Le (f i 0) (f' i 0)) : PV.Le (.sl false 1 n f) (.sl false 1 n' f') :=
  .sl _ _ (fun e => e) 1 _ _ _ _ hn fun i j hi hj => by
    have e : j = 0 := by omega
    subst e
    exact h i hi
theorem c_dRows (nn : Bool) (n : Nat) (f : Nat → Int) (p wd mn : Nat) (hb : Bytes f) (hp : p + 4 * (mn * wd) ≤ 900000000) (hwd : wd ≤ 1000) (hmn : mn ≤ 1000) : PObj Tryd.prog G0 147 [.adr 0 0, AI wd, AI mn] [(0, RD nn n f p)] (.own 1) [(0, RD nn n f (p + 4 * (mn * wd))), (1, .row .u false 1 mn (RR (fun _ => wd) fun i j => cellV n f (p + 4 * (i * wd) + 4 * j)) [])] := by
  refine PObj.by chk147 rfl (ev_dRows nn n f p wd mn) ?_
  refine loop_by (st_dRows nn n f p wd mn) (fun k => k ≤ mn) (fun k => mn - k) 0 [] [] [] (by omega) ?_ (evr_dRows nn n f p wd mn) fun k hk => ?_
  · simp [st_dRows, hbs, St.lowers, St.lower, stLe, leEnv, leObs, obLe, injB, pinC, AV.leC, AV.leCs, PV.leC, PV.Le_v, St.get, St.obj, look, rho, isNew, keptC, renH, Mode.ok, Mode.isZ, PV.isVal, PV.isNilSl, List.all_nil, List.all_cons, List.any_nil, List.any_cons, List.map_nil, List.map_cons, PV.Le_self, hbs]
  · have hkm : k * wd ≤ mn * wd := Nat.mul_le_mul_right wd hk
    have ek : IntKind.i64.wrap ((k : Int) + 1) = ((k + 1 : Nat) : Int) := wrap_in (by omega) (by omega)
    simp only [VC.holds_split, VC.holds_need, VC.holds_doneP, VC.holds_done, VC.holds_either, VC.holds_call, VC.holds_callE, VC.holds_lend, VC.holds_stop, VC.holds_fail, decide_eq_true_eq, decide_eq_false_iff_not, Int.toNat_natCast]
    refine ⟨fun h0 => ?_, fun h0 => ?_⟩
    · have hk1 : (k + 1) * wd ≤ mn * wd := Nat.mul_le_mul_right wd (by omega)
      have hk2 : (k + 1) * wd = k * wd + wd := Nat.succ_mul k wd
      refine loop_by (st_dRows2 nn n f p wd mn k) (fun j => j ≤ wd) (fun j => wd - j) 0 [] [] [] (by omega) ?_ (fun J j => evr_dRows2 nn n f p wd mn _ k J j) fun j hj => ?_
      · simp [st_dRows2, hbs, St.lowers, St.lower, stLe, leEnv, leObs, obLe, injB, pinC, AV.leC, AV.leCs, PV.leC, PV.Le_v, St.get, St.obj, look, rho, isNew, keptC, renH, Mode.ok, Mode.isZ, PV.isVal, PV.isNilSl, List.all_nil, List.all_cons, List.any_nil, List.any_cons, List.map_nil, List.map_cons, PV.Le_self, hbs]
      · have ej : IntKind.i64.wrap ((j : Int) + 1) = ((j + 1 : Nat) : Int) := wrap_in (by omega) (by omega)
        simp only [VC.holds_split, VC.holds_need, VC.holds_doneP, VC.holds_done, VC.holds_either, VC.holds_call, VC.holds_callE, VC.holds_lend, VC.holds_stop, VC.holds_fail, decide_eq_true_eq, decide_eq_false_iff_not, Int.toNat_natCast]
        refine ⟨fun h1 => ?_, fun h1 => ?_⟩
        · have q1 := pick_rng (n := n) (p := p + 4 * (k * wd) + 4 * j + 1 + 1 + 1) (m := 5) hb (by omega) (by omega)
          have q2 := lit_rng (lo := 0) (hi := 2) (l := [0, 0, 0, 1, 2]) (by decide) (i := (pickV n f (p + 4 * (k * wd) + 4 * j + 1 + 1 + 1) 5).toNat) (by simp only [List.length_cons, List.length_nil]; omega)
          refine ⟨c_pick _ _ _ _ _ hb (by omega), c_pick _ _ _ _ _ hb (by omega), c_pick _ _ _ _ _ hb (by omega), c_pick _ _ _ _ _ hb (by omega), ⟨q1.1, by omega⟩, by omega, ⟨q2.1, by omega⟩, by omega, ⟨by omega, fun a b ha hb' => ?_⟩, Again.mk (j + 1) [] [(17, 40)] [] (by omega) (by omega) ?_⟩
          · obtain rfl : a = 0 := by omega
            obtain rfl : b = 0 := by omega
            rfl
          · have e4 : p + 4 * (k * wd) + 4 * (j + 1) = p + 4 * (k * wd) + 4 * j + 1 + 1 + 1 + 1 := by omega
            simp only [st_dRows2, e4]
            simp [hbs, St.lowers, St.lower, stLe, leEnv, leObs, obLe, injB, pinC, AV.leC, AV.leCs, PV.leC, PV.Le_v, St.get, St.obj, look, rho, isNew, keptC, renH, Mode.ok, Mode.isZ, PV.isVal, PV.isNilSl, List.all_nil, List.all_cons, List.any_nil, List.any_cons, List.map_nil, List.map_cons, PV.Le_self, hbs, ej]
            intro i hi
            by_cases h5 : i < j
            · simp [h5, PV.Le_self]
            · obtain rfl : i = j := by omega
              simp [setG, cellSet, cellV]
              exact .refl _
        · have : j = wd := by omega
          subst this
          refine ⟨⟨by omega, ?_⟩, Again.mk (k + 1) [] [(11, 44)] [] (by omega) (by omega) ?_⟩
          · intro i l hi hl
            obtain rfl : i = 0 := by omega
            obtain rfl : l = 0 := by omega
            rfl
          · have e4 : p + 4 * ((k + 1) * j) = p + 4 * (k * j) + 4 * j := by rw [hk2]; omega
            simp only [st_dRows, e4]
            simp [hbs, St.lowers, St.lower, stLe, leEnv, leObs, obLe, injB, pinC, AV.leC, AV.leCs, PV.leC, PV.Le_v, St.get, St.obj, look, rho, isNew, keptC, renH, Mode.ok, Mode.isZ, PV.isVal, PV.isNilSl, List.all_nil, List.all_cons, List.any_nil, List.any_cons, List.map_nil, List.map_cons, PV.Le_self, hbs, ek]
            intro i hi
            by_cases h5 : i < k
            · simp [h5]; exact RR_le rfl fun _ _ => rfl
            · obtain rfl : i = k := by omega
              simp [setG, cellSet]
              exact sl_leD rfl fun a ha => .refl _
    · have : k = mn := by omega
      subst this
      refine ResOk.mk [] [(0, 100000), (1, 11)] [] _ _ ?_ ⟨rfl, rfl⟩
      simp [doneC, resOf, resAV, tup, pinR, PV.Le_self, hbs, St.lowers, St.lower, stLe, leEnv, leObs, obLe, injB, pinC, AV.leC, AV.leCs, PV.leC, PV.Le_v, St.get, St.obj, look, rho, isNew, keptC, renH, Mode.ok, Mode.isZ, PV.isVal, PV.isNilSl, List.all_nil, List.all_cons, List.any_nil, List.any_cons, List.map_nil, List.map_cons, res147, hbs]
end Go.Gw
