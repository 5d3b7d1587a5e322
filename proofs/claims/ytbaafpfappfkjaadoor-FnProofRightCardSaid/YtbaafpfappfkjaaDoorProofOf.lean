/- The proof of a tag in a tree of tags; with no condition. -/
import Derived.Test.YtbaafpfappfkjaaDoorRoot
import Derived.KernelRfl
namespace Go.Gw
open Go Go.Proofs
set_option linter.unusedSimpArgs false
set_option linter.unusedVariables false
set_option maxRecDepth 100000
def ir38_L1 : Ir :=
  (.seq
  (.seq
  (.reg [24, 25] [o 24 (.mov (tt 7)),
    o 25 (.len (tt 24)),
    o 26 (.bin .gtr (tt 25) (ci 1))])
  (.cond (tt 26)
   .skip
   (.exit 0)))
  (.block 1
   (.seq
   (.reg [27, 28, 29, 30, 31, 32, 33, 34, 35, 36, 37, 38] [o 27 (.mov (tt 6)),
     o 28 (.mov (tt 7)),
     o 29 (.mov (tt 1)),
     o 30 (.bin .add (tt 29) (ci 1)),
     o 31 (.mov (tt 1)),
     o 32 (.bin .rem (tt 31) (ci 2)),
     o 33 (.bin .mul (ci 2) (tt 32)),
     o 34 (.bin .sub (tt 30) (tt 33)),
     o 35 (.idx 1 (tt 28) (tt 34)),
     o 36 (.load false 1 (tt 35)),
     o 37 (.mkSl 1 1 [(.int .i64 0)] [(0, (tt 36))]),
     o 38 (.app 1 8 true (tt 27) (tt 37)),
     o 6 (.mov (tt 38))])
   (.seq
   (.reg [39, 40] [o 39 (.mov (tt 7)),
     o 40 (.call 58 [(tt 39)]),
     o 7 (.mov (tt 40))])
   (.reg [41, 42] [o 41 (.mov (tt 1)),
     o 42 (.bin .quo (tt 41) (ci 2)),
     o 1 (.mov (tt 42))])))))
def ir38_T2 : Ir :=
  (.seq
  (.reg [43] [o 43 (.mov (tt 6)),
    o 4 (.mov (tt 43)),
    o 5 (.mov (cb true))])
  .ret)
def ir38 : Ir :=
  (.seq
  (.reg [] [o 4 (.mov (.const (.slice none 0 0))),
    o 5 (.mov (cb false))])
  (.seq
  (.reg [8] [o 8 (.mkSl 1 0 [(.int .i64 0)] []),
    o 6 (.mov (tt 8))])
  (.seq
  (.seq
  (.reg [9, 10, 11, 12, 13, 14, 15, 16, 17, 18] [o 9 (.mov (tt 0)),
    o 10 (.call 57 [(tt 9)]),
    o 11 (.un .not (tt 10)),
    o 12 (.mov (tt 11)),
    og 13 12 false (.mov (tt 1)),
    og 14 12 false (.mov (tt 0)),
    og 15 12 false (.len (tt 14)),
    og 16 12 false (.bin .sub (tt 15) (ci 1)),
    og 17 12 false (.call 44 [(tt 13), (ci 0), (tt 16)]),
    og 18 12 false (.un .not (tt 17)),
    o 19 (.pick (tt 12) (cb true) (tt 18))])
  (.cond (tt 19)
   (.seq
   (.reg [20] [o 20 (.mov (tt 6)),
     o 4 (.mov (tt 20)),
     o 5 (.mov (cb false))])
   .ret)
   .skip))
  (.seq
  (.reg [21, 22, 23] [o 21 (.mkSl 1 0 [(.int .i64 0)] []),
    o 22 (.mov (tt 0)),
    o 23 (.app 1 8 true (tt 21) (tt 22)),
    o 7 (.mov (tt 23))])
  (.seq
  (.block 0
   (.loop ir38_L1))
  ir38_T2)))))
def keep38 : List Nat := [0, 1, 4, 5, 6, 7, 19, 26]
def res38 : List RI := [.tmp 4, .tmp 5]
theorem chk38 : chk Tryd.prog 38 2 keep38 = some (ir38, res38) := by kernel_rfl
def ir35_L1 : Ir :=
  (.seq
  (.reg [] [o 29 (.bin .lss (tt 28) (tt 27))])
  (.seq
  (.cond (tt 29)
   .skip
   (.exit 0))
  (.seq
  (.block 1
   (.seq
   (.reg [30, 31] [o 30 (.idx 1 (tt 26) (tt 28)),
     o 31 (.load false 1 (tt 30)),
     o 9 (.mov (tt 31))])
   (.seq
   (.reg [32, 33, 34, 35, 36, 37, 38, 39] [o 32 (.mov (tt 7)),
     o 33 (.mov (tt 9)),
     o 34 (.mov (tt 1)),
     o 35 (.bin .xor (tt 34) (ci 1)),
     o 36 (.idx 1 (tt 33) (tt 35)),
     o 37 (.load false 1 (tt 36)),
     o 38 (.mkSl 1 1 [(.int .i64 0)] [(0, (tt 37))]),
     o 39 (.app 1 8 true (tt 32) (tt 38)),
     o 7 (.mov (tt 39))])
   (.reg [40, 41] [o 40 (.mov (tt 1)),
     o 41 (.bin .quo (tt 40) (ci 2)),
     o 1 (.mov (tt 41))]))))
  (.reg [42] [o 42 (.bin .add (tt 28) (ci 1)),
    o 28 (.mov (tt 42))]))))
def ir35_T2 : Ir :=
  (.seq
  (.reg [43] [o 43 (.mov (tt 7)),
    o 4 (.mov (tt 43)),
    o 5 (.mov (cb true))])
  .ret)
def ir35 : Ir :=
  (.seq
  (.reg [] [o 4 (.mov (.const (.slice none 0 0))),
    o 5 (.mov (cb false))])
  (.seq
  (.reg [10, 11] [o 10 (.mov (tt 0)),
    o 11 (.call 56 [(tt 10)]),
    o 6 (.mov (tt 11))])
  (.seq
  (.seq
  (.reg [12, 13, 14, 15, 16, 17, 18, 19, 20] [o 12 (.mov (tt 6)),
    o 13 (.isNil false (tt 12)),
    o 14 (.mov (tt 13)),
    og 15 14 false (.mov (tt 1)),
    og 16 14 false (.mov (tt 0)),
    og 17 14 false (.len (tt 16)),
    og 18 14 false (.bin .sub (tt 17) (ci 1)),
    og 19 14 false (.call 47 [(tt 15), (ci 0), (tt 18)]),
    og 20 14 false (.un .not (tt 19)),
    o 21 (.pick (tt 14) (cb true) (tt 20))])
  (.cond (tt 21)
   (.seq
   (.reg [] [o 4 (.mov (.const (.slice none 0 0))),
     o 5 (.mov (cb false))])
   .ret)
   .skip))
  (.seq
  (.reg [] [o 7 (.mov (.const (.slice none 0 0)))])
  (.seq
  (.seq
  (.reg [22, 23, 24, 25] [o 22 (.mov (tt 6)),
    o 23 (.mov (tt 6)),
    o 24 (.len (tt 23)),
    o 25 (.bin .sub (tt 24) (ci 1)),
    o 26 (.slc 1 (tt 22) none (some (tt 25))),
    o 27 (.len (tt 26)),
    o 28 (.mov (ci 0))])
  (.block 0
   (.loop ir35_L1)))
  ir35_T2)))))
def keep35 : List Nat := [0, 1, 4, 5, 6, 7, 9, 21, 26, 27, 28, 29]
def res35 : List RI := [.tmp 4, .tmp 5]
theorem chk35 : chk Tryd.prog 35 2 keep35 = some (ir35, res35) := by kernel_rfl

def sibN (x : Nat) : Nat := x + 1 - 2 * (x % 2)
def proofF (f : Nat → Int) (a : Nat) : Nat → Int := fun i => upN f i (sibN (a / 2 ^ i))
def proofOk (n : Nat) (f : Nat → Int) (a : Int) : Bool := treeOk n f && inB a 0 ((n : Int) - 1)
def proofN (n : Nat) (f : Nat → Int) (a : Int) : Nat := if proofOk n f a then Nat.log2 n else 0
abbrev proofR (n : Nat) (f : Nat → Int) (a : Int) : AV := .tp [.own 0, AB (proofOk n f a)]
abbrev proofH (n : Nat) (f : Nat → Int) (a : Int) : List (Nat × Ob) := [(0, .row .u false 1 (proofN n f a) (fun i _ => PI (proofF f a.toNat i)) [])]

def in_spPO (nn : Bool) (n : Nat) (f : Nat → Int) (a : Int) := (G0, res38, ([] : List (Nat × Ob)), [Item.ir ir38], start [IL nn n f, AI a] [])
theorem ev_spPO : ∀ (nn : Bool) (n : Nat) (f : Nat → Int) (a : Int),
  ev G0 res38 [] (3000 : Nat)
      (Or.call [] (AB (treeOk n fun (i : Nat) => intOf (PI (f i)))) []
        (Or.nil.lit.lit.lit.lit.lit.lit.lit.split
          (Or.call [] (AB (inB a (0 : Int) (IntKind.i64.wrap ((↑n : Int) - (1 : Int))))) []
                    (Or.nil.split Or.nil).lit.lit).lit.lit.lit.lit))
      [Item.ir ir38] (start [IL nn n f, AI a] []) =
    VC.call (57 : Nat) [AV.p false (PV.sl nn (1 : Nat) n fun (i x : Nat) => PI (f i))] []
      (AB (treeOk n fun (i : Nat) => intOf (PI (f i)))) []
      (VC.split (!treeOk n fun (i : Nat) => intOf (PI (f i)))
        (VC.done
          {
            env :=
              [((0 : Nat), AV.p false (PV.sl nn (1 : Nat) n fun (i x : Nat) => PI (f i))),
                ((1 : Nat), AV.p true (PV.v (Value.int IntKind.i64 a))), ((4 : Nat), AV.own (8 : Nat)),
                ((5 : Nat), AV.p true (PV.v (Value.bool false))), ((6 : Nat), AV.own (8 : Nat)),
                ((19 : Nat), AV.p true (PV.v (Value.bool true)))],
            H :=
              [((8 : Nat),
                  Ob.row Mode.u true (1 : Nat) (0 : Nat)
                    (setG [] fun (x j : Nat) => PV.v ([Value.int IntKind.i64 (0 : Int)].getD j undef)) [])] })
        (VC.call (44 : Nat)
          [AV.p true (PV.v (Value.int IntKind.i64 a)), AV.p true (PV.v (Value.int IntKind.i64 (0 : Int))),
            AV.p true (PV.v (Value.int IntKind.i64 (IntKind.i64.wrap ((↑n : Int) - (1 : Int)))))]
          [] (AB (inB a (0 : Int) (IntKind.i64.wrap ((↑n : Int) - (1 : Int))))) []
          (VC.split (!inB a (0 : Int) (IntKind.i64.wrap ((↑n : Int) - (1 : Int))))
            (VC.done
              {
                env :=
                  [((0 : Nat), AV.p false (PV.sl nn (1 : Nat) n fun (i x : Nat) => PI (f i))),
                    ((1 : Nat), AV.p true (PV.v (Value.int IntKind.i64 a))), ((4 : Nat), AV.own (8 : Nat)),
                    ((5 : Nat), AV.p true (PV.v (Value.bool false))), ((6 : Nat), AV.own (8 : Nat)),
                    ((19 : Nat),
                      AV.p true (PV.v (Value.bool !inB a (0 : Int) (IntKind.i64.wrap ((↑n : Int) - (1 : Int))))))],
                H :=
                  [((8 : Nat),
                      Ob.row Mode.u true (1 : Nat) (0 : Nat)
                        (setG [] fun (x j : Nat) => PV.v ([Value.int IntKind.i64 (0 : Int)].getD j undef)) [])] })
            (VC.need
              ((((0 : Nat) + n) * (8 : Nat) ≤ (140737488355328 : Nat) ∧
                  (↑((0 : Nat) + n) : Int) ≤ (9223372036854775807 : Int)) ∧
                allV (1 : Nat) n fun (i x : Nat) => PI (f i))
              (VC.loop ir38_L1 [Item.bend (0 : Nat), Item.ir ir38_T2]
                {
                  env :=
                    [((0 : Nat), AV.p false (PV.sl nn (1 : Nat) n fun (i x : Nat) => PI (f i))),
                      ((1 : Nat), AV.p true (PV.v (Value.int IntKind.i64 a))),
                      ((4 : Nat), AV.p true (PV.v (Value.slice none (0 : Nat) (0 : Nat)))),
                      ((5 : Nat), AV.p true (PV.v (Value.bool false))), ((6 : Nat), AV.own (8 : Nat)),
                      ((19 : Nat),
                        AV.p true (PV.v (Value.bool !inB a (0 : Int) (IntKind.i64.wrap ((↑n : Int) - (1 : Int)))))),
                      ((7 : Nat), AV.own (23 : Nat))],
                  H :=
                    [((8 : Nat),
                        Ob.row Mode.u true (1 : Nat) (0 : Nat)
                          (setG [] fun (x j : Nat) => PV.v ([Value.int IntKind.i64 (0 : Int)].getD j undef)) []),
                      ((23 : Nat),
                        Ob.row Mode.u true (1 : Nat) ((0 : Nat) + n)
                          (fun (a_1 b : Nat) =>
                            if a_1 < (0 : Nat) then
                              setG [] (fun (x j : Nat) => PV.v ([Value.int IntKind.i64 (0 : Int)].getD j undef)) a_1 b
                            else PI (f (a_1 - (0 : Nat))))
                          [])] }))))) := by
  intros; kernel_rfl
def st_spPO (n : Nat) (f : Nat → Int) (a : Nat) (k : Nat) : St := ⟨[(1, AI ((a / 2 ^ k : Nat) : Int)), (6, .own 8), (7, .own 23)], [(8, .row .u true 1 k (fun i _ => PI (proofF f a i)) []), (23, .row .u true 1 (n / 2 ^ k) (fun i _ => PI (upN f k i)) [])]⟩
def r_spPO (n : Nat) (f : Nat → Int) (a : Nat) (I : Nat → St → Prop) (k : Nat) := (G0, res38, ([] : List (Nat × Ob)), [Item.ir ir38_L1, .lend (I k), Item.bend 0, Item.ir ir38_T2], st_spPO n f a k)
theorem evr_spPO : ∀ (n : Nat) (f : Nat → Int) (a : Nat) (I : Nat → St → Prop) (k : Nat),
  ev G0 res38 [] (3000 : Nat)
      ((Or.call [] (AV.own (0 : Nat))
            [((0 : Nat),
                Ob.row Mode.u true (1 : Nat) (n / (2 : Nat) ^ k / (2 : Nat))
                  (fun (i x : Nat) => PI (upF (fun (i_1 : Nat) => intOf (PI (upN f k i_1))) i)) [])]
            Or.nil).split
        Or.nil)
      [Item.ir ir38_L1, Item.lend (I k), Item.bend (0 : Nat), Item.ir ir38_T2] (st_spPO n f a k) =
    VC.split (decide ((1 : Int) < (↑(n / (2 : Nat) ^ k) : Int)))
      (VC.need ((2 : Int) ≠ (0 : Int))
        (VC.need
          ((0 : Int) ≤
              IntKind.i64.wrap
                (IntKind.i64.wrap ((↑(a / (2 : Nat) ^ k) : Int) + (1 : Int)) -
                  IntKind.i64.wrap ((2 : Int) * (↑(a / (2 : Nat) ^ k) : Int).tmod (2 : Int))) ∧
            (IntKind.i64.wrap
                  (IntKind.i64.wrap ((↑(a / (2 : Nat) ^ k) : Int) + (1 : Int)) -
                    IntKind.i64.wrap ((2 : Int) * (↑(a / (2 : Nat) ^ k) : Int).tmod (2 : Int)))).toNat <
              n / (2 : Nat) ^ k)
          (VC.need
            ((IntKind.i64.wrap
                  (IntKind.i64.wrap ((↑(a / (2 : Nat) ^ k) : Int) + (1 : Int)) -
                    IntKind.i64.wrap ((2 : Int) * (↑(a / (2 : Nat) ^ k) : Int).tmod (2 : Int)))).toNat <
              n / (2 : Nat) ^ k)
            (VC.need
              (((k + (1 : Nat)) * (8 : Nat) ≤ (140737488355328 : Nat) ∧
                  (↑(k + (1 : Nat)) : Int) ≤ (9223372036854775807 : Int)) ∧
                allV (1 : Nat) (1 : Nat)
                  (setG
                    [((0 : Nat), (0 : Nat),
                        PV.v
                          (Value.int IntKind.i64
                            (upN f k
                              (IntKind.i64.wrap
                                  (IntKind.i64.wrap ((↑(a / (2 : Nat) ^ k) : Int) + (1 : Int)) -
                                    IntKind.i64.wrap
                                      ((2 : Int) * (↑(a / (2 : Nat) ^ k) : Int).tmod (2 : Int)))).toNat)))]
                    fun (x j : Nat) => PV.v ([Value.int IntKind.i64 (0 : Int)].getD j undef)))
              (VC.call (58 : Nat)
                [AV.p false (PV.sl true (1 : Nat) (n / (2 : Nat) ^ k) fun (i x : Nat) => PI (upN f k i))] []
                (AV.own (0 : Nat))
                [((0 : Nat),
                    Ob.row Mode.u true (1 : Nat) (n / (2 : Nat) ^ k / (2 : Nat))
                      (fun (i x : Nat) => PI (upF (fun (i_1 : Nat) => intOf (PI (upN f k i_1))) i)) [])]
                (VC.need ((2 : Int) ≠ (0 : Int))
                  (VC.lend (I k)
                    {
                      env :=
                        [((1 : Nat),
                            AV.p true
                              (PV.v
                                (Value.int IntKind.i64
                                  (IntKind.i64.wrap ((↑(a / (2 : Nat) ^ k) : Int).tdiv (2 : Int)))))),
                          ((6 : Nat), AV.own (38 : Nat)), ((7 : Nat), AV.own (1040 : Nat)),
                          ((26 : Nat),
                            AV.p true (PV.v (Value.bool (decide ((1 : Int) < (↑(n / (2 : Nat) ^ k) : Int))))))],
                      H :=
                        [((38 : Nat),
                            Ob.row Mode.u true (1 : Nat) (k + (1 : Nat))
                              (fun (a_1 b : Nat) =>
                                if a_1 < k then PI (proofF f a a_1)
                                else
                                  setG
                                    [((0 : Nat), (0 : Nat),
                                        PV.v
                                          (Value.int IntKind.i64
                                            (upN f k
                                              (IntKind.i64.wrap
                                                  (IntKind.i64.wrap ((↑(a / (2 : Nat) ^ k) : Int) + (1 : Int)) -
                                                    IntKind.i64.wrap
                                                      ((2 : Int) *
                                                        (↑(a / (2 : Nat) ^ k) : Int).tmod (2 : Int)))).toNat)))]
                                    (fun (x j : Nat) => PV.v ([Value.int IntKind.i64 (0 : Int)].getD j undef)) (a_1 - k)
                                    b)
                              []),
                          ((1040 : Nat),
                            Ob.row Mode.u true (1 : Nat) (n / (2 : Nat) ^ k / (2 : Nat))
                              (fun (i x : Nat) => PI (upF (fun (i_1 : Nat) => intOf (PI (upN f k i_1))) i))
                              [])] })))))))
      (VC.done
        {
          env :=
            [((1 : Nat), AV.p true (PV.v (Value.int IntKind.i64 (↑(a / (2 : Nat) ^ k) : Int)))),
              ((6 : Nat), AV.own (8 : Nat)), ((7 : Nat), AV.own (23 : Nat)),
              ((26 : Nat), AV.p true (PV.v (Value.bool (decide ((1 : Int) < (↑(n / (2 : Nat) ^ k) : Int)))))),
              ((4 : Nat), AV.own (8 : Nat)), ((5 : Nat), AV.p true (PV.v (Value.bool true)))],
          H :=
            [((8 : Nat), Ob.row Mode.u true (1 : Nat) k (fun (i x : Nat) => PI (proofF f a i)) []),
              ((23 : Nat), Ob.row Mode.u true (1 : Nat) (n / (2 : Nat) ^ k) (fun (i x : Nat) => PI (upN f k i)) [])] }) := by
  intros; kernel_rfl
def in_imPO (nn : Bool) (n : Nat) (f : Nat → Int) (a : Int) := (G0, res35, ([] : List (Nat × Ob)), [Item.ir ir35], start [IL nn n f, AI a] [])
theorem ev_imPOt : ∀ (nn : Bool) (n : Nat) (f : Nat → Int) (a : Int),
  ev G0 res35 [] (3000 : Nat)
      (Or.call [] (AV.own (0 : Nat))
        [((0 : Nat),
            Ob.row Mode.z true (1 : Nat) (n.log2 + (1 : Nat)) (LV (0 : Nat) n fun (i : Nat) => intOf (PI (f i))) [])]
        (Or.call [] (AB (inB a (0 : Int) (IntKind.i64.wrap ((↑n : Int) - (1 : Int))))) []
                    (Or.nil.split Or.nil).lit.lit).lit.lit.lit.lit.lit)
      [Item.ir ir35] (start [IL nn n f, AI a] []) =
    VC.call (56 : Nat) [AV.p false (PV.sl nn (1 : Nat) n fun (i x : Nat) => PI (f i))] [] (AV.own (0 : Nat))
      [((0 : Nat),
          Ob.row Mode.z true (1 : Nat) (n.log2 + (1 : Nat)) (LV (0 : Nat) n fun (i : Nat) => intOf (PI (f i))) [])]
      (VC.call (47 : Nat)
        [AV.p true (PV.v (Value.int IntKind.i64 a)), AV.p true (PV.v (Value.int IntKind.i64 (0 : Int))),
          AV.p true (PV.v (Value.int IntKind.i64 (IntKind.i64.wrap ((↑n : Int) - (1 : Int)))))]
        [] (AB (inB a (0 : Int) (IntKind.i64.wrap ((↑n : Int) - (1 : Int))))) []
        (VC.split (!inB a (0 : Int) (IntKind.i64.wrap ((↑n : Int) - (1 : Int))))
          (VC.done
            {
              env :=
                [((0 : Nat), AV.p false (PV.sl nn (1 : Nat) n fun (i x : Nat) => PI (f i))),
                  ((1 : Nat), AV.p true (PV.v (Value.int IntKind.i64 a))),
                  ((4 : Nat), AV.p true (PV.v (Value.slice none (0 : Nat) (0 : Nat)))),
                  ((5 : Nat), AV.p true (PV.v (Value.bool false))), ((6 : Nat), AV.own (1011 : Nat)),
                  ((21 : Nat),
                    AV.p true (PV.v (Value.bool !inB a (0 : Int) (IntKind.i64.wrap ((↑n : Int) - (1 : Int))))))],
              H :=
                [((1011 : Nat),
                    Ob.row Mode.z true (1 : Nat) (n.log2 + (1 : Nat)) (LV (0 : Nat) n fun (i : Nat) => intOf (PI (f i)))
                      [])] })
          (VC.need
            ((0 : Int) ≤ IntKind.i64.wrap ((↑(n.log2 + (1 : Nat)) : Int) - (1 : Int)) ∧
              IntKind.i64.wrap ((↑(n.log2 + (1 : Nat)) : Int) - (1 : Int)) ≤ (↑(n.log2 + (1 : Nat)) : Int))
            (VC.loop ir35_L1 [Item.bend (0 : Nat), Item.ir ir35_T2]
              {
                env :=
                  [((0 : Nat), AV.p false (PV.sl nn (1 : Nat) n fun (i x : Nat) => PI (f i))),
                    ((1 : Nat), AV.p true (PV.v (Value.int IntKind.i64 a))),
                    ((4 : Nat), AV.p true (PV.v (Value.slice none (0 : Nat) (0 : Nat)))),
                    ((5 : Nat), AV.p true (PV.v (Value.bool false))), ((6 : Nat), AV.own (1011 : Nat)),
                    ((21 : Nat),
                      AV.p true (PV.v (Value.bool !inB a (0 : Int) (IntKind.i64.wrap ((↑n : Int) - (1 : Int)))))),
                    ((7 : Nat), AV.p true (PV.v (Value.slice none (0 : Nat) (0 : Nat)))),
                    ((26 : Nat), AV.own (26 : Nat)),
                    ((27 : Nat),
                      AV.p true
                        (PV.v
                          (Value.int IntKind.i64
                            (↑(IntKind.i64.wrap ((↑(n.log2 + (1 : Nat)) : Int) - (1 : Int))).toNat : Int)))),
                    ((28 : Nat), AV.p true (PV.v (Value.int IntKind.i64 (0 : Int))))],
                H :=
                  [((26 : Nat),
                      Ob.row Mode.z true (1 : Nat) (IntKind.i64.wrap ((↑(n.log2 + (1 : Nat)) : Int) - (1 : Int))).toNat
                        (LV (0 : Nat) n fun (i : Nat) => intOf (PI (f i))) [])] })))) := by
  intros; kernel_rfl
theorem ev_imPOf : ∀ (nn : Bool) (n : Nat) (f : Nat → Int) (a : Int),
  ev G0 res35 [] (3000 : Nat)
      (Or.call [] (AV.p true (PV.v (Value.slice none (0 : Nat) (0 : Nat)))) [] Or.nil.lit.lit.lit.lit.lit.lit.lit.lit)
      [Item.ir ir35] (start [IL nn n f, AI a] []) =
    VC.call (56 : Nat) [AV.p false (PV.sl nn (1 : Nat) n fun (i x : Nat) => PI (f i))] []
      (AV.p true (PV.v (Value.slice none (0 : Nat) (0 : Nat)))) []
      (VC.done
        {
          env :=
            [((0 : Nat), AV.p false (PV.sl nn (1 : Nat) n fun (i x : Nat) => PI (f i))),
              ((1 : Nat), AV.p true (PV.v (Value.int IntKind.i64 a))),
              ((4 : Nat), AV.p true (PV.v (Value.slice none (0 : Nat) (0 : Nat)))),
              ((5 : Nat), AV.p true (PV.v (Value.bool false))),
              ((6 : Nat), AV.p true (PV.v (Value.slice none (0 : Nat) (0 : Nat)))),
              ((21 : Nat), AV.p true (PV.v (Value.bool true)))],
          H := [] }) := by
  intros; kernel_rfl
def st_imPO (n m : Nat) (f : Nat → Int) (a : Nat) (k : Nat) : St := ⟨[(1, AI ((a / 2 ^ k : Nat) : Int)), (7, .own 7), (26, .own 26), (27, AI m), (28, AI k)], [(7, .row .u false 1 k (fun i _ => PI (proofF f a i)) []), (26, .row .z false 1 m (LV 0 n f) [])]⟩
def r_imPO (n m : Nat) (f : Nat → Int) (a : Nat) (I : Nat → St → Prop) (k : Nat) := (G0, res35, ([] : List (Nat × Ob)), [Item.ir ir35_L1, .lend (I k), Item.bend 0, Item.ir ir35_T2], st_imPO n m f a k)
theorem evr_imPO : ∀ (n m : Nat) (f : Nat → Int) (a : Nat) (I : Nat → St → Prop) (k : Nat),
  ev G0 res35 [] (3000 : Nat) (Or.nil.split Or.nil)
      [Item.ir ir35_L1, Item.lend (I k), Item.bend (0 : Nat), Item.ir ir35_T2] (st_imPO n m f a k) =
    VC.split (decide ((↑k : Int) < (↑m : Int)))
      (VC.need ((0 : Int) ≤ (↑k : Int) ∧ (↑k : Int).toNat < m)
        (VC.need ((↑k : Int).toNat < m)
          (VC.need
            ((0 : Int) ≤
                IntKind.i64.wrap
                  (↑(BitVec.ofInt IntKind.i64.bits (↑(a / (2 : Nat) ^ k) : Int) ^^^
                          BitVec.ofInt IntKind.i64.bits (1 : Int)).toNat :
                    Int) ∧
              (IntKind.i64.wrap
                    (↑(BitVec.ofInt IntKind.i64.bits (↑(a / (2 : Nat) ^ k) : Int) ^^^
                            BitVec.ofInt IntKind.i64.bits (1 : Int)).toNat :
                      Int)).toNat <
                n / (2 : Nat) ^ (↑k : Int).toNat)
            (VC.need
              (((k + (1 : Nat)) * (8 : Nat) ≤ (140737488355328 : Nat) ∧
                  (↑(k + (1 : Nat)) : Int) ≤ (9223372036854775807 : Int)) ∧
                allV (1 : Nat) (1 : Nat)
                  (setG
                    [((0 : Nat), (0 : Nat),
                        PV.v
                          (Value.int IntKind.i64
                            (upN f (↑k : Int).toNat
                              (IntKind.i64.wrap
                                  (↑(BitVec.ofInt IntKind.i64.bits (↑(a / (2 : Nat) ^ k) : Int) ^^^
                                          BitVec.ofInt IntKind.i64.bits (1 : Int)).toNat :
                                    Int)).toNat)))]
                    fun (x j : Nat) => PV.v ([Value.int IntKind.i64 (0 : Int)].getD j undef)))
              (VC.need ((2 : Int) ≠ (0 : Int))
                (VC.lend (I k)
                  {
                    env :=
                      [((1 : Nat),
                          AV.p true
                            (PV.v
                              (Value.int IntKind.i64
                                (IntKind.i64.wrap ((↑(a / (2 : Nat) ^ k) : Int).tdiv (2 : Int)))))),
                        ((7 : Nat), AV.own (39 : Nat)), ((26 : Nat), AV.own (26 : Nat)),
                        ((27 : Nat), AV.p true (PV.v (Value.int IntKind.i64 (↑m : Int)))),
                        ((28 : Nat),
                          AV.p true (PV.v (Value.int IntKind.i64 (IntKind.i64.wrap ((↑k : Int) + (1 : Int)))))),
                        ((29 : Nat), AV.p true (PV.v (Value.bool (decide ((↑k : Int) < (↑m : Int)))))),
                        ((9 : Nat),
                          AV.p false
                            (PV.sl false (1 : Nat) (n / (2 : Nat) ^ (↑k : Int).toNat) fun (j x : Nat) =>
                              PI (upN f (↑k : Int).toNat j)))],
                    H :=
                      [((26 : Nat), Ob.row Mode.z false (1 : Nat) m (LV (0 : Nat) n f) []),
                        ((39 : Nat),
                          Ob.row Mode.u false (1 : Nat) (k + (1 : Nat))
                            (fun (a_1 b : Nat) =>
                              if a_1 < k then PI (proofF f a a_1)
                              else
                                setG
                                  [((0 : Nat), (0 : Nat),
                                      PV.v
                                        (Value.int IntKind.i64
                                          (upN f (↑k : Int).toNat
                                            (IntKind.i64.wrap
                                                (↑(BitVec.ofInt IntKind.i64.bits (↑(a / (2 : Nat) ^ k) : Int) ^^^
                                                        BitVec.ofInt IntKind.i64.bits (1 : Int)).toNat :
                                                  Int)).toNat)))]
                                  (fun (x j : Nat) => PV.v ([Value.int IntKind.i64 (0 : Int)].getD j undef)) (a_1 - k)
                                  b)
                            [])] }))))))
      (VC.done
        {
          env :=
            [((1 : Nat), AV.p true (PV.v (Value.int IntKind.i64 (↑(a / (2 : Nat) ^ k) : Int)))),
              ((7 : Nat), AV.own (7 : Nat)), ((26 : Nat), AV.own (26 : Nat)),
              ((27 : Nat), AV.p true (PV.v (Value.int IntKind.i64 (↑m : Int)))),
              ((28 : Nat), AV.p true (PV.v (Value.int IntKind.i64 (↑k : Int)))),
              ((29 : Nat), AV.p true (PV.v (Value.bool (decide ((↑k : Int) < (↑m : Int)))))),
              ((4 : Nat), AV.own (7 : Nat)), ((5 : Nat), AV.p true (PV.v (Value.bool true)))],
          H :=
            [((7 : Nat), Ob.row Mode.u false (1 : Nat) k (fun (i x : Nat) => PI (proofF f a i)) []),
              ((26 : Nat), Ob.row Mode.z false (1 : Nat) m (LV (0 : Nat) n f) [])] }) := by
  intros; kernel_rfl

theorem sib_sp {x : Nat} (h : x ≤ 1000) : IntKind.i64.wrap (IntKind.i64.wrap ((x : Int) + 1) - IntKind.i64.wrap (2 * (x : Int).tmod 2)) = (sibN x : Int) := by
  have e : (x : Int).tmod 2 = ((x % 2 : Nat) : Int) := by rw [Int.tmod_eq_emod_of_nonneg (by omega)]; omega
  have e1 : IntKind.i64.wrap ((x : Int) + 1) = (x : Int) + 1 := wrap_in (by omega) (by omega)
  have e2 : IntKind.i64.wrap (2 * ((x % 2 : Nat) : Int)) = 2 * ((x % 2 : Nat) : Int) := wrap_in (by omega) (by omega)
  rw [e, e1, e2]
  refine (wrap_in (by omega) (by omega)).trans ?_
  unfold sibN
  omega
theorem sib_im {x : Nat} (h : x < 16) : IntKind.i64.wrap ((BitVec.ofInt IntKind.i64.bits (x : Int) ^^^ BitVec.ofInt IntKind.i64.bits 1).toNat : Int) = (sibN x : Int) := by
  have : x = 0 ∨ x = 1 ∨ x = 2 ∨ x = 3 ∨ x = 4 ∨ x = 5 ∨ x = 6 ∨ x = 7 ∨ x = 8 ∨ x = 9 ∨ x = 10 ∨ x = 11 ∨ x = 12 ∨ x = 13 ∨ x = 14 ∨ x = 15 := by omega
  rcases this with rfl | rfl | rfl | rfl | rfl | rfl | rfl | rfl | rfl | rfl | rfl | rfl | rfl | rfl | rfl | rfl <;> decide
theorem half_nat (x : Nat) : IntKind.i64.wrap ((x : Int).tdiv 2) = ((x / 2 : Nat) : Int) ∨ ¬ x ≤ 1000000 := by
  by_cases h : x ≤ 1000000
  · left
    have e : (x : Int).tdiv 2 = ((x / 2 : Nat) : Int) := by rw [Int.tdiv_eq_ediv_of_nonneg (by omega)]; omega
    rw [e]
    exact wrap_in (by omega) (by omega)
  · exact .inr h
theorem half_pow {a k : Nat} (h : a / 2 ^ k ≤ 1000000) : IntKind.i64.wrap (((a / 2 ^ k : Nat) : Int).tdiv 2) = ((a / 2 ^ (k + 1) : Nat) : Int) := by
  have e : a / 2 ^ k / 2 = a / 2 ^ (k + 1) := by rw [Nat.div_div_eq_div_mul, Nat.pow_succ]
  rcases half_nat (a / 2 ^ k) with h1 | h1
  · rw [h1, e]
  · omega
theorem tree_lt {n k a : Nat} (h : n = 1 ∨ n = 2 ∨ n = 4 ∨ n = 8 ∨ n = 16) (h1 : 0 < n / 2 ^ k) (hk : k ≤ 4) (ha : a < n) : a / 2 ^ k < n / 2 ^ k := by
  have hk' : k = 0 ∨ k = 1 ∨ k = 2 ∨ k = 3 ∨ k = 4 := by omega
  rcases h with rfl | rfl | rfl | rfl | rfl <;> rcases hk' with rfl | rfl | rfl | rfl | rfl <;> simp at h1 ⊢ <;> omega
theorem tree_gt {n k : Nat} (h : n = 1 ∨ n = 2 ∨ n = 4 ∨ n = 8 ∨ n = 16) (h1 : k < Nat.log2 n) : 1 < n / 2 ^ k := by
  rcases h with rfl | rfl | rfl | rfl | rfl
  · exact absurd h1 (by simp [show Nat.log2 1 = 0 by decide])
  · rw [show Nat.log2 2 = 1 by decide] at h1
    have : k = 0 := by omega
    subst this; decide
  · rw [show Nat.log2 4 = 2 by decide] at h1
    have : k = 0 ∨ k = 1 := by omega
    rcases this with rfl | rfl <;> decide
  · rw [show Nat.log2 8 = 3 by decide] at h1
    have : k = 0 ∨ k = 1 ∨ k = 2 := by omega
    rcases this with rfl | rfl | rfl <;> decide
  · rw [show Nat.log2 16 = 4 by decide] at h1
    have : k = 0 ∨ k = 1 ∨ k = 2 ∨ k = 3 := by omega
    rcases this with rfl | rfl | rfl | rfl <;> decide
theorem sib_lt {x m : Nat} (h : x < m) (h2 : m % 2 = 0) : sibN x < m := by unfold sibN; omega

theorem c_spPO0 (nn : Bool) (n : Nat) (f : Nat → Int) (a : Int) (hn : n ≤ 1048576) : PObj Tryd.prog G0 38 [IL nn n f, AI a] [] (proofR n f a) (proofH n f a) := by
  refine PObj.by chk38 rfl (ev_spPO nn n f a) ?_
  simp only [VC.holds_split, VC.holds_need, VC.holds_doneP, VC.holds_done, VC.holds_either, VC.holds_call, VC.holds_callE, VC.holds_lend, VC.holds_stop, VC.holds_fail, decide_eq_true_eq, decide_eq_false_iff_not, intOf]
  have e0 : IntKind.i64.wrap ((n : Int) - 1) = (n : Int) - 1 := wrap_in (by omega) (by omega)
  simp only [e0]
  refine ⟨c_lv _ _ _ (int_cells _ _) hn, fun h => ?_, fun h => ⟨c_l1In _ _ _, fun h2 => ?_, fun h2 => ⟨⟨by omega, allV_row _ _⟩, ?_⟩⟩⟩
  · simp only [Bool.not_eq_true'] at h
    have e1 : proofOk n f a = false := by simp [proofOk, h]
    have e2 : proofN n f a = 0 := by simp [proofN, e1]
    simp only [proofR, proofH, e1, e2]
    refine ResOk.mk [] [(0, 8)] [] _ _ ?_ ⟨rfl, rfl⟩
    simp [doneC, resOf, resAV, tup, pinR, hbs, St.lowers, St.lower, stLe, leEnv, leObs, obLe, injB, pinC, AV.leC, AV.leCs, PV.leC, PV.Le_v, St.get, St.obj, look, rho, isNew, keptC, renH, Mode.ok, Mode.isZ, PV.isVal, PV.isNilSl, List.all_nil, List.all_cons, List.any_nil, List.any_cons, List.map_nil, List.map_cons, res38]
  · simp only [Bool.not_eq_true'] at h2
    have e1 : proofOk n f a = false := by simp [proofOk, h2]
    have e2 : proofN n f a = 0 := by simp [proofN, e1]
    simp only [proofR, proofH, e1, e2]
    refine ResOk.mk [] [(0, 8)] [] _ _ ?_ ⟨rfl, rfl⟩
    simp [doneC, resOf, resAV, tup, pinR, hbs, St.lowers, St.lower, stLe, leEnv, leObs, obLe, injB, pinC, AV.leC, AV.leCs, PV.leC, PV.Le_v, St.get, St.obj, look, rho, isNew, keptC, renH, Mode.ok, Mode.isZ, PV.isVal, PV.isNilSl, List.all_nil, List.all_cons, List.any_nil, List.any_cons, List.map_nil, List.map_cons, res38]
  · simp only [Bool.not_eq_false'] at h h2
    have e1 : proofOk n f a = true := by simp [proofOk, h, h2]
    have e2 : proofN n f a = Nat.log2 n := by simp [proofN, e1]
    have hN := treeOk_n h
    have hb := inB_iff.1 h2
    obtain ⟨b, rfl⟩ : ∃ b : Nat, a = b := ⟨a.toNat, by omega⟩
    have hbn : b < n := by omega
    simp only [proofR, proofH, e1, e2]
    refine loop_by (st_spPO n f b) (fun k => 0 < n / 2 ^ k ∧ k ≤ 4) (fun k => 4 - k) 0 [] [] [] (by simp; omega) ?_ (evr_spPO n f b) fun k hk => ?_
    · simp [st_spPO, hbs, St.lowers, St.lower, stLe, leEnv, leObs, obLe, injB, pinC, AV.leC, AV.leCs, PV.leC, PV.Le_v, St.get, St.obj, look, rho, isNew, keptC, renH, Mode.ok, Mode.isZ, PV.isVal, PV.isNilSl, List.all_nil, List.all_cons, List.any_nil, List.any_cons, List.map_nil, List.map_cons, upN]
    · obtain ⟨h1, hk⟩ := hk
      have hlt := tree_lt (a := b) hN h1 hk hbn
      have hle : n / 2 ^ k ≤ n := Nat.div_le_self _ _
      simp only [VC.holds_split, VC.holds_need, VC.holds_doneP, VC.holds_done, VC.holds_either, VC.holds_call, VC.holds_callE, VC.holds_lend, VC.holds_stop, VC.holds_fail, decide_eq_true_eq, decide_eq_false_iff_not, sib_sp (x := b / 2 ^ k) (by omega), half_pow (a := b) (k := k) (by omega), Int.toNat_natCast]
      refine ⟨fun h3 => ?_, fun h3 => ?_⟩
      · have hev := tree_even (k := k) hN (by omega) hk
        have hs := sib_lt hlt hev
        have hst := tree_step (k := k) hN (by omega) hk
        refine ⟨by omega, ⟨by omega, hs⟩, hs, ⟨by omega, ?_⟩, c_up _ _ _ (int_cells _ _) (by omega), by omega, Again.mk (k + 1) [] [(8, 38), (23, 1040)] [] hst (by omega) ?_⟩
        · intro i j hi hj
          obtain rfl : i = 0 := by omega
          obtain rfl : j = 0 := by omega
          rfl
        · have e : n / 2 ^ k / 2 = n / 2 ^ (k + 1) := by rw [Nat.div_div_eq_div_mul, Nat.pow_succ]
          simp [st_spPO, hbs, St.lowers, St.lower, stLe, leEnv, leObs, obLe, injB, pinC, AV.leC, AV.leCs, PV.leC, PV.Le_v, St.get, St.obj, look, rho, isNew, keptC, renH, Mode.ok, Mode.isZ, PV.isVal, PV.isNilSl, List.all_nil, List.all_cons, List.any_nil, List.any_cons, List.map_nil, List.map_cons, e, upN, intOf]
          intro i hi
          by_cases h4 : i < k
          · simp [h4]; exact .refl _
          · have : i = k := by omega
            subst this
            simp [setG, cellSet, proofF]; exact .refl _
      · have := tree_end (k := k) hN h1 (by omega) hk
        subst this
        refine ResOk.mk [] [(0, 8)] [] _ _ ?_ ⟨rfl, rfl⟩
        simp [doneC, resOf, resAV, tup, pinR, hbs, St.lowers, St.lower, stLe, leEnv, leObs, obLe, injB, pinC, AV.leC, AV.leCs, PV.leC, PV.Le_v, St.get, St.obj, look, rho, isNew, keptC, renH, Mode.ok, Mode.isZ, PV.isVal, PV.isNilSl, List.all_nil, List.all_cons, List.any_nil, List.any_cons, List.map_nil, List.map_cons, res38]
theorem c_imPO0 (nn : Bool) (n : Nat) (f : Nat → Int) (a : Int) (hn : n ≤ 1048576) : PObj Tryd.prog G0 35 [IL nn n f, AI a] [] (proofR n f a) (proofH n f a) := by
  have e0 : IntKind.i64.wrap ((n : Int) - 1) = (n : Int) - 1 := wrap_in (by omega) (by omega)
  cases ht : treeOk n f with
  | false =>
    refine PObj.by chk35 rfl (ev_imPOf nn n f a) ?_
    simp only [VC.holds_split, VC.holds_need, VC.holds_doneP, VC.holds_done, VC.holds_either, VC.holds_call, VC.holds_callE, VC.holds_lend, VC.holds_stop, VC.holds_fail, decide_eq_true_eq, decide_eq_false_iff_not, intOf]
    have e1 : proofOk n f a = false := by simp [proofOk, ht]
    have e2 : proofN n f a = 0 := by simp [proofN, e1]
    simp only [proofR, proofH, e1, e2]
    refine ⟨c_levels_no _ _ _ (int_cells _ _) hn ht, ?_⟩
    refine ResOk.mk [] [] [0] _ _ ?_ ⟨rfl, rfl⟩
    simp [doneC, resOf, resAV, tup, pinR, hbs, St.lowers, St.lower, stLe, leEnv, leObs, obLe, injB, pinC, AV.leC, AV.leCs, PV.leC, PV.Le_v, St.get, St.obj, look, rho, isNew, keptC, renH, Mode.ok, Mode.isZ, PV.isVal, PV.isNilSl, List.all_nil, List.all_cons, List.any_nil, List.any_cons, List.map_nil, List.map_cons, res35]
  | true =>
    have hN := treeOk_n ht
    have hL := tree_log hN
    refine PObj.by chk35 rfl (ev_imPOt nn n f a) ?_
    simp only [VC.holds_split, VC.holds_need, VC.holds_doneP, VC.holds_done, VC.holds_either, VC.holds_call, VC.holds_callE, VC.holds_lend, VC.holds_stop, VC.holds_fail, decide_eq_true_eq, decide_eq_false_iff_not, intOf]
    have e3 : IntKind.i64.wrap (((Nat.log2 n + 1 : Nat) : Int) - 1) = (Nat.log2 n : Int) := (wrap_in (by omega) (by omega)).trans (by omega)
    simp only [e0, e3, Int.toNat_natCast]
    refine ⟨c_levels_ok _ _ _ (int_cells _ _) ht, c_in _ _ _, fun h2 => ?_, fun h2 => ⟨by omega, ?_⟩⟩
    · simp only [Bool.not_eq_true'] at h2
      have e1 : proofOk n f a = false := by simp [proofOk, h2]
      have e2 : proofN n f a = 0 := by simp [proofN, e1]
      simp only [proofR, proofH, e1, e2]
      refine ResOk.mk [] [] [0] _ _ ?_ ⟨rfl, rfl⟩
      simp [doneC, resOf, resAV, tup, pinR, hbs, St.lowers, St.lower, stLe, leEnv, leObs, obLe, injB, pinC, AV.leC, AV.leCs, PV.leC, PV.Le_v, St.get, St.obj, look, rho, isNew, keptC, renH, Mode.ok, Mode.isZ, PV.isVal, PV.isNilSl, List.all_nil, List.all_cons, List.any_nil, List.any_cons, List.map_nil, List.map_cons, res35]
    · simp only [Bool.not_eq_false'] at h2
      have e1 : proofOk n f a = true := by simp [proofOk, ht, h2]
      have e2 : proofN n f a = Nat.log2 n := by simp [proofN, e1]
      have hb := inB_iff.1 h2
      obtain ⟨b, rfl⟩ : ∃ b : Nat, a = b := ⟨a.toNat, by omega⟩
      have hbn : b < n := by omega
      simp only [proofR, proofH, e1, e2]
      refine loop_by (st_imPO n (Nat.log2 n) f b) (fun k => k ≤ Nat.log2 n) (fun k => Nat.log2 n - k) 0 [] [] [7] (by omega) ?_ (evr_imPO n _ f b) fun k hk => ?_
      · simp [st_imPO, hbs, St.lowers, St.lower, stLe, leEnv, leObs, obLe, injB, pinC, AV.leC, AV.leCs, PV.leC, PV.Le_v, St.get, St.obj, look, rho, isNew, keptC, renH, Mode.ok, Mode.isZ, PV.isVal, PV.isNilSl, List.all_nil, List.all_cons, List.any_nil, List.any_cons, List.map_nil, List.map_cons, intOf]
        intro i hi
        exact .refl _
      · have h1 : 0 < n / 2 ^ k := by
          rcases Nat.lt_or_ge k (Nat.log2 n) with h3 | h3
          · have := tree_gt (k := k) hN h3; omega
          · have : k = Nat.log2 n := by omega
            rw [this, hL.1]; decide
        have hlt := tree_lt (a := b) hN h1 (by omega) hbn
        have hle : n / 2 ^ k ≤ n := Nat.div_le_self _ _
        have e4 : IntKind.i64.wrap ((k : Int) + 1) = ((k + 1 : Nat) : Int) := wrap_in (by omega) (by omega)
        simp only [VC.holds_split, VC.holds_need, VC.holds_doneP, VC.holds_done, VC.holds_either, VC.holds_call, VC.holds_callE, VC.holds_lend, VC.holds_stop, VC.holds_fail, decide_eq_true_eq, decide_eq_false_iff_not, Int.toNat_natCast, sib_im (x := b / 2 ^ k) (by omega), half_pow (a := b) (k := k) (by omega), e4]
        refine ⟨fun h3 => ?_, fun h3 => ?_⟩
        · have hgt := tree_gt (k := k) hN (by omega)
          have hev := tree_even (k := k) hN hgt (by omega)
          have hs := sib_lt hlt hev
          refine ⟨by omega, by omega, ⟨by omega, hs⟩, ⟨by omega, ?_⟩, by omega, Again.mk (k + 1) [] [(7, 39)] [] (by omega) (by omega) ?_⟩
          · intro i j hi hj
            obtain rfl : i = 0 := by omega
            obtain rfl : j = 0 := by omega
            rfl
          · simp [st_imPO, hbs, St.lowers, St.lower, stLe, leEnv, leObs, obLe, injB, pinC, AV.leC, AV.leCs, PV.leC, PV.Le_v, St.get, St.obj, look, rho, isNew, keptC, renH, Mode.ok, Mode.isZ, PV.isVal, PV.isNilSl, List.all_nil, List.all_cons, List.any_nil, List.any_cons, List.map_nil, List.map_cons]
            refine ⟨fun i hi => ?_, fun i hi => .refl _⟩
            by_cases h4 : i < k
            · simp [h4]; exact .refl _
            · have : i = k := by omega
              subst this
              simp [setG, cellSet, proofF]; exact .refl _
        · have : k = Nat.log2 n := by omega
          subst this
          refine ResOk.mk [] [(0, 7)] [] _ _ ?_ ⟨rfl, rfl⟩
          simp [doneC, resOf, resAV, tup, pinR, hbs, St.lowers, St.lower, stLe, leEnv, leObs, obLe, injB, pinC, AV.leC, AV.leCs, PV.leC, PV.Le_v, St.get, St.obj, look, rho, isNew, keptC, renH, Mode.ok, Mode.isZ, PV.isVal, PV.isNilSl, List.all_nil, List.all_cons, List.any_nil, List.any_cons, List.map_nil, List.map_cons, res35]

theorem IL_le1 {nn : Bool} {n : Nat} {g : Nat → Nat → PV} {a : Int} (hg : IntCells 1 n g) : AV.lePs [SL nn 1 n g, AI a] [IL nn n fun i => intOf (g i 0), AI a] := ⟨AV.leP_ints hg, AV.leP_p _ _, trivial⟩
theorem c_spPO (nn : Bool) (n : Nat) (g : Nat → Nat → PV) (a : Int) (hg : IntCells 1 n g) (hn : n ≤ 1048576) : PObj Tryd.prog G0 38 [SL nn 1 n g, AI a] [] (proofR n (fun i => intOf (g i 0)) a) (proofH n (fun i => intOf (g i 0)) a) := (c_spPO0 nn n _ a hn).args (IL_le1 hg) trivial
theorem c_imPO (nn : Bool) (n : Nat) (g : Nat → Nat → PV) (a : Int) (hg : IntCells 1 n g) (hn : n ≤ 1048576) : PObj Tryd.prog G0 35 [SL nn 1 n g, AI a] [] (proofR n (fun i => intOf (g i 0)) a) (proofH n (fun i => intOf (g i 0)) a) := (c_imPO0 nn n _ a hn).args (IL_le1 hg) trivial

theorem log2_le (n : Nat) : Nat.log2 n ≤ n := Nat.log2_le_self n
theorem proofN_le (n : Nat) (f : Nat → Int) (a : Int) : proofN n f a ≤ n := by
  have := log2_le n
  unfold proofN; split <;> omega
end Go.Gw
