/- Spending from a ledger; with no condition. -/
import Derived.Test.YtbaafpfappfkjaaDoorLeftOf
import Derived.KernelRfl
namespace Go.Gw
open Go Go.Proofs
set_option linter.unusedSimpArgs false
set_option linter.unusedVariables false
set_option maxRecDepth 100000
def ir54 : Ir :=
  (.seq
  (.reg [] [o 1 (.box 2 (tt 0)),
    o 2 (.alloc [(.int .i64 0), (.slice none 0 0)])])
  (.seq
  (.reg [4] [o 4 (.load true 2 (tt 1)),
    o 3 (.alloc [(.int .i64 0), (.slice none 0 0)]),
    on (.store 2 (tt 3) (tt 4))])
  (.seq
  (.reg [5, 6, 7, 8, 9] [o 5 (.mkSl 1 0 [(.int .i64 0)] []),
    o 6 (.fadr 1 (tt 1)),
    o 7 (.load false 1 (tt 6)),
    o 8 (.app 1 8 true (tt 5) (tt 7)),
    o 9 (.fadr 1 (tt 3)),
    on (.store 1 (tt 9) (tt 8))])
  (.seq
  (.reg [10] [o 10 (.load true 2 (tt 3)),
    on (.store 2 (tt 2) (tt 10))])
  .ret))))
def keep54 : List Nat := [0, 1, 2, 3]
def res54 : List RI := [.cell true 2 2]
theorem chk54 : chk Tryd.prog 54 1 keep54 = some (ir54, res54) := by kernel_rfl
def ir30 : Ir :=
  (.seq
  (.reg [] [o 2 (.box 2 (tt 0)),
    o 4 (.alloc [(.int .i64 0), (.slice none 0 0)]),
    o 5 (.mov (cb false))])
  (.seq
  (.reg [8, 9] [o 8 (.load true 2 (tt 2)),
    o 9 (.call 54 [(tt 8)]),
    on (.store 2 (tt 2) (tt 9))])
  (.seq
  (.seq
  (.reg [10, 11] [o 10 (.load true 2 (tt 2)),
    o 11 (.call 20 [(tt 10)]),
    o 12 (.un .not (tt 11))])
  (.cond (tt 12)
   (.seq
   (.reg [13] [o 13 (.build [(.int .i64 0), (.slice none 0 0)] []),
     on (.store 2 (tt 4) (tt 13)),
     o 5 (.mov (cb false))])
   .ret)
   .skip))
  (.seq
  (.dreg [14, 15, 16, 17, 18, 19, 20] [0, 1, 0, 0, 8, 28, 63, 0, 255] [(1, 1015), (2, 16), (4, 1018), (5, 19), (7, 6)] [o 14 (.fadr 0 (tt 2)),
    o 15 (.load false 1 (tt 14)),
    o 16 (.mkSl 1 0 [(.int .i64 0)] []),
    o 17 (.fadr 1 (tt 2)),
    o 18 (.load false 1 (tt 17)),
    o 19 (.app 1 8 true (tt 16) (tt 18)),
    o 20 (.build [(.int .i64 0), (.slice none 0 0)] [(0, 1, (tt 15)), (1, 1, (tt 19))]),
    o 6 (.alloc [(.int .i64 0), (.slice none 0 0)]),
    on (.store 2 (tt 6) (tt 20))])
  (.seq
  (.dreg [21, 22, 23, 24, 25, 26, 27, 28, 29, 30] [0, 1, 0, 0, 8, 28, 0, 64, 252, 511, 0, 2047] [(1, 1022), (2, 23), (4, 1025), (5, 26), (7, 28), (8, 29), (10, 7)] [o 21 (.fadr 0 (tt 2)),
    o 22 (.load false 1 (tt 21)),
    o 23 (.mkSl 1 0 [(.int .i64 0)] []),
    o 24 (.fadr 1 (tt 2)),
    o 25 (.load false 1 (tt 24)),
    o 26 (.app 1 8 true (tt 23) (tt 25)),
    o 27 (.mov (tt 1)),
    o 28 (.mkSl 1 1 [(.int .i64 0)] [(0, (tt 27))]),
    o 29 (.app 1 8 true (tt 26) (tt 28)),
    o 30 (.build [(.int .i64 0), (.slice none 0 0)] [(0, 1, (tt 22)), (1, 1, (tt 29))]),
    o 7 (.alloc [(.int .i64 0), (.slice none 0 0)]),
    on (.store 2 (tt 7) (tt 30))])
  (.seq
  (.seq
  (.reg [31, 32] [o 31 (.load true 2 (tt 7)),
    o 32 (.call 20 [(tt 31)]),
    o 33 (.un .not (tt 32))])
  (.cond (tt 33)
   (.seq
   (.reg [34] [o 34 (.load true 2 (tt 6)),
     on (.store 2 (tt 4) (tt 34)),
     o 5 (.mov (cb false))])
   .ret)
   .skip))
  (.seq
  (.reg [35] [o 35 (.load true 2 (tt 7)),
    on (.store 2 (tt 4) (tt 35)),
    o 5 (.mov (cb true))])
  .ret)))))))
def keep30 : List Nat := [0, 1, 2, 4, 5, 6, 7, 12, 33]
def res30 : List RI := [.cell true 2 4, .tmp 5]
theorem chk30 : chk Tryd.prog 30 2 keep30 = some (ir30, res30) := by kernel_rfl
def ir28 : Ir :=
  (.seq
  (.reg [] [o 2 (.box 2 (tt 0)),
    o 4 (.alloc [(.int .i64 0), (.slice none 0 0)]),
    o 5 (.mov (cb false))])
  (.seq
  (.seq
  (.reg [7, 8] [o 7 (.load true 2 (tt 2)),
    o 8 (.call 19 [(tt 7)]),
    o 9 (.un .not (tt 8))])
  (.cond (tt 9)
   (.seq
   (.reg [10] [o 10 (.build [(.int .i64 0), (.slice none 0 0)] []),
     on (.store 2 (tt 4) (tt 10)),
     o 5 (.mov (cb false))])
   .ret)
   .skip))
  (.seq
  (.dreg [11, 12, 13, 14, 15, 16, 17, 18, 19] [0, 1, 0, 4, 12, 0, 32, 124, 255, 0, 1023] [(1, 1012), (3, 1014), (4, 15), (6, 17), (7, 18), (9, 6)] [o 11 (.fadr 0 (tt 2)),
    o 12 (.load false 1 (tt 11)),
    o 13 (.fadr 1 (tt 2)),
    o 14 (.load false 1 (tt 13)),
    o 15 (.app 1 8 true (.const (.slice none 0 0)) (tt 14)),
    o 16 (.mov (tt 1)),
    o 17 (.mkSl 1 1 [(.int .i64 0)] [(0, (tt 16))]),
    o 18 (.app 1 8 true (tt 15) (tt 17)),
    o 19 (.build [(.int .i64 0), (.slice none 0 0)] [(0, 1, (tt 12)), (1, 1, (tt 18))]),
    o 6 (.alloc [(.int .i64 0), (.slice none 0 0)]),
    on (.store 2 (tt 6) (tt 19))])
  (.seq
  (.seq
  (.reg [20, 21] [o 20 (.load true 2 (tt 6)),
    o 21 (.call 19 [(tt 20)]),
    o 22 (.un .not (tt 21))])
  (.cond (tt 22)
   (.seq
   (.dreg [23, 24, 25, 26, 27, 28] [0, 1, 0, 4, 12, 31, 63, 127] [(1, 1024), (3, 1026), (4, 27)] [o 23 (.fadr 0 (tt 2)),
     o 24 (.load false 1 (tt 23)),
     o 25 (.fadr 1 (tt 2)),
     o 26 (.load false 1 (tt 25)),
     o 27 (.app 1 8 true (.const (.slice none 0 0)) (tt 26)),
     o 28 (.build [(.int .i64 0), (.slice none 0 0)] [(0, 1, (tt 24)), (1, 1, (tt 27))]),
     on (.store 2 (tt 4) (tt 28)),
     o 5 (.mov (cb false))])
   .ret)
   .skip))
  (.seq
  (.reg [29] [o 29 (.load true 2 (tt 6)),
    on (.store 2 (tt 4) (tt 29)),
    o 5 (.mov (cb true))])
  .ret)))))
def keep28 : List Nat := [0, 1, 2, 4, 5, 6, 9, 22]
def res28 : List RI := [.cell true 2 4, .tmp 5]
theorem chk28 : chk Tryd.prog 28 2 keep28 = some (ir28, res28) := by kernel_rfl

def snoc (f : Nat → Int) (n : Nat) (c : Int) : Nat → Int := fun i => if i < n then f i else c

theorem lv_split {b : Int} {m n : Nat} {F G : Nat → Int} {x : Bool} (h : (!ledgerValid b m F) = x) (hm : m = n) (hF : ∀ i, i < n → F i = G i) : ledgerValid b n G = !x := by
  subst hm
  rw [← ledgerValid_congr hF, ← h, Bool.not_not]

/-! ### l1OwnLedger -/
def in_own (b : Int) (nn : Bool) (n : Nat) (f : Nat → Int) := (G0, res54, ([] : List (Nat × Ob)), [Item.ir ir54], start [.ag [AI b, IL nn n f]] [])
theorem ev_own : ∀ (b : Int) (nn : Bool) (n : Nat) (f : Nat → Int),
  ev G0 res54 [] (3000 : Nat) Or.nil [Item.ir ir54] (start [AV.ag [AI b, IL nn n f]] []) =
    VC.need
      ((((0 : Nat) + n) * (8 : Nat) ≤ (140737488355328 : Nat) ∧
          (↑((0 : Nat) + n) : Int) ≤ (9223372036854775807 : Int)) ∧
        allV (1 : Nat) n fun (i x : Nat) => PI (f i))
      (VC.done
        {
          env :=
            [((0 : Nat),
                AV.ag
                  [AV.p true (PV.v (Value.int IntKind.i64 b)),
                    AV.p false (PV.sl nn (1 : Nat) n fun (i x : Nat) => PI (f i))]),
              ((1 : Nat), AV.adr (1 : Nat) (0 : Nat)), ((2 : Nat), AV.adr (2 : Nat) (0 : Nat)),
              ((3 : Nat), AV.adr (3 : Nat) (0 : Nat))],
          H :=
            [((1 : Nat),
                Ob.box
                  [AV.p true (PV.v (Value.int IntKind.i64 b)),
                    AV.p false (PV.sl nn (1 : Nat) n fun (i x : Nat) => PI (f i))]),
              ((2 : Nat), Ob.box [AV.p true (PV.v (Value.int IntKind.i64 b)), AV.own (8 : Nat)]),
              ((3 : Nat), Ob.box [AV.p true (PV.v (Value.int IntKind.i64 b)), AV.own (8 : Nat)]),
              ((8 : Nat),
                Ob.row Mode.u true (1 : Nat) ((0 : Nat) + n)
                  (fun (a b_1 : Nat) =>
                    if a < (0 : Nat) then
                      setG [] (fun (x j : Nat) => PV.v ([Value.int IntKind.i64 (0 : Int)].getD j undef)) a b_1
                    else PI (f (a - (0 : Nat))))
                  [])] }) := by
  intros; kernel_rfl
theorem allV_ints (n : Nat) (f : Nat → Int) : allV 1 n (fun i _ => PI (f i)) := fun _ _ _ _ => rfl
theorem c_own0 (b : Int) (nn : Bool) (n : Nat) (f : Nat → Int) (hn : n ≤ 1048576) : PObj Tryd.prog G0 54 [.ag [AI b, IL nn n f]] [] (.ag [AI b, .own 0]) [(0, .row .u true 1 n (fun i _ => PI (f i)) [])] := by
  refine PObj.by chk54 rfl (ev_own b nn n f) ?_
  simp only [VC.holds_split, VC.holds_need, VC.holds_doneP, VC.holds_done, VC.holds_either, VC.holds_call, VC.holds_callE, VC.holds_lend, VC.holds_stop, VC.holds_fail, decide_eq_true_eq, decide_eq_false_iff_not]
  refine ⟨⟨by omega, allV_ints _ _⟩, ResOk.mk [] [(0, 8)] [] _ _ ?_ ⟨rfl, rfl⟩⟩
  simp [doneC, resOf, resAV, tup, pinR, hbs, St.lowers, St.lower, stLe, leEnv, leObs, obLe, injB, pinC, AV.leC, AV.leCs, PV.leC, PV.Le_v, St.get, St.obj, look, rho, isNew, keptC, renH, Mode.ok, Mode.isZ, PV.isVal, PV.isNilSl, List.all_nil, List.all_cons, List.any_nil, List.any_cons, List.map_nil, List.map_cons, res54]
theorem c_own (b : Int) (nn : Bool) (n : Nat) (g : Nat → Nat → PV) (hg : IntCells 1 n g) (hn : n ≤ 1048576) : PObj Tryd.prog G0 54 [LG b nn n g] [] (.ag [AI b, .own 0]) [(0, .row .u true 1 n (fun i _ => PI (intOf (g i 0))) [])] :=
  (c_own0 b nn n _ hn).args (LG_le hg) trivial

/-! ### SpendCost -/
def spendB (b : Int) (n : Nat) (f : Nat → Int) : Int := if ledgerValid b n f then b else 0
def spendOk (b : Int) (n : Nat) (f : Nat → Int) (c : Int) : Bool := ledgerValid b n f && ledgerValid b (n + 1) (snoc f n c)
def spendN (b : Int) (n : Nat) (f : Nat → Int) (c : Int) : Nat := if ledgerValid b n f then (if ledgerValid b (n + 1) (snoc f n c) then n + 1 else n) else 0
abbrev spendR (b : Int) (n : Nat) (f : Nat → Int) (c : Int) : AV := .tp [.ag [AI (spendB b n f), .own 0], AB (spendOk b n f c)]
abbrev spendH (b : Int) (n : Nat) (f : Nat → Int) (c : Int) : List (Nat × Ob) := [(0, .row .u false 1 (spendN b n f c) (fun i _ => PI (snoc f n c i)) [])]

def in_spSC (b : Int) (nn : Bool) (n : Nat) (f : Nat → Int) (c : Int) := (G0, res30, ([] : List (Nat × Ob)), [Item.ir ir30], start [.ag [AI b, IL nn n f], AI c] [])
theorem ev_spSC : ∀ (b : Int) (nn : Bool) (n : Nat) (f : Nat → Int) (c : Int),
  ev G0 res30 [] (3000 : Nat)
      (Or.call [] (AV.ag [AI b, AV.own (0 : Nat)])
        [((0 : Nat), Ob.row Mode.u true (1 : Nat) n (fun (i x : Nat) => PI (intOf (PI (f i)))) [])]
        (Or.call [] (AB (ledgerValid b n fun (i : Nat) => intOf (PI (intOf (PI (f i)))))) []
          (Or.nil.split
            (Or.call []
              (AB
                (ledgerValid b ((0 : Nat) + n + (1 : Nat)) fun (i : Nat) =>
                  intOf
                    (if i < (0 : Nat) + n then
                      if i < (0 : Nat) then
                        setG [] (fun (x j : Nat) => PV.v ([Value.int IntKind.i64 (0 : Int)].getD j undef)) i (0 : Nat)
                      else PI (intOf (PI (f (i - (0 : Nat)))))
                    else
                      setG [((0 : Nat), (0 : Nat), PV.v (Value.int IntKind.i64 c))]
                        (fun (x j : Nat) => PV.v ([Value.int IntKind.i64 (0 : Int)].getD j undef)) (i - ((0 : Nat) + n))
                        (0 : Nat))))
              [] (Or.nil.split Or.nil)))))
      [Item.ir ir30] (start [AV.ag [AI b, IL nn n f], AI c] []) =
    VC.call (54 : Nat)
      [AV.ag
          [AV.p true (PV.v (Value.int IntKind.i64 b)), AV.p false (PV.sl nn (1 : Nat) n fun (i x : Nat) => PI (f i))]]
      [] (AV.ag [AI b, AV.own (0 : Nat)])
      [((0 : Nat), Ob.row Mode.u true (1 : Nat) n (fun (i x : Nat) => PI (intOf (PI (f i)))) [])]
      (VC.call (20 : Nat)
        [AV.ag
            [AV.p true (PV.v (Value.int IntKind.i64 b)),
              AV.p false (PV.sl true (1 : Nat) n fun (i x : Nat) => PI (intOf (PI (f i))))]]
        [] (AB (ledgerValid b n fun (i : Nat) => intOf (PI (intOf (PI (f i)))))) []
        (VC.split (!ledgerValid b n fun (i : Nat) => intOf (PI (intOf (PI (f i)))))
          (VC.done
            {
              env :=
                [((0 : Nat),
                    AV.ag
                      [AV.p true (PV.v (Value.int IntKind.i64 b)),
                        AV.p false (PV.sl nn (1 : Nat) n fun (i x : Nat) => PI (f i))]),
                  ((1 : Nat), AV.p true (PV.v (Value.int IntKind.i64 c))), ((2 : Nat), AV.adr (2 : Nat) (0 : Nat)),
                  ((4 : Nat), AV.adr (4 : Nat) (0 : Nat)), ((5 : Nat), AV.p true (PV.v (Value.bool false))),
                  ((12 : Nat),
                    AV.p true (PV.v (Value.bool !ledgerValid b n fun (i : Nat) => intOf (PI (intOf (PI (f i)))))))],
              H :=
                [((2 : Nat), Ob.box [AV.p true (PV.v (Value.int IntKind.i64 b)), AV.own (1009 : Nat)]),
                  ((4 : Nat),
                    Ob.box
                      [AV.p true (PV.v (Value.int IntKind.i64 (0 : Int))),
                        AV.p true (PV.v (Value.slice none (0 : Nat) (0 : Nat)))]),
                  ((1009 : Nat), Ob.row Mode.u true (1 : Nat) n (fun (i x : Nat) => PI (intOf (PI (f i)))) [])] })
          (VC.need
            ((((0 : Nat) + n) * (8 : Nat) ≤ (140737488355328 : Nat) ∧
                (↑((0 : Nat) + n) : Int) ≤ (9223372036854775807 : Int)) ∧
              allV (1 : Nat) n fun (i x : Nat) => PI (intOf (PI (f i))))
            (VC.need
              ((((0 : Nat) + n) * (8 : Nat) ≤ (140737488355328 : Nat) ∧
                  (↑((0 : Nat) + n) : Int) ≤ (9223372036854775807 : Int)) ∧
                allV (1 : Nat) n fun (i x : Nat) => PI (intOf (PI (f i))))
              (VC.need
                ((((0 : Nat) + n + (1 : Nat)) * (8 : Nat) ≤ (140737488355328 : Nat) ∧
                    (↑((0 : Nat) + n + (1 : Nat)) : Int) ≤ (9223372036854775807 : Int)) ∧
                  allV (1 : Nat) (1 : Nat)
                    (setG [((0 : Nat), (0 : Nat), PV.v (Value.int IntKind.i64 c))] fun (x j : Nat) =>
                      PV.v ([Value.int IntKind.i64 (0 : Int)].getD j undef)))
                (VC.call (20 : Nat)
                  [AV.ag
                      [AV.p true (PV.v (Value.int IntKind.i64 b)),
                        AV.p false
                          (PV.sl true (1 : Nat) ((0 : Nat) + n + (1 : Nat)) fun (a b_1 : Nat) =>
                            if a < (0 : Nat) + n then
                              if a < (0 : Nat) then
                                setG [] (fun (x j : Nat) => PV.v ([Value.int IntKind.i64 (0 : Int)].getD j undef)) a b_1
                              else PI (intOf (PI (f (a - (0 : Nat)))))
                            else
                              setG [((0 : Nat), (0 : Nat), PV.v (Value.int IntKind.i64 c))]
                                (fun (x j : Nat) => PV.v ([Value.int IntKind.i64 (0 : Int)].getD j undef))
                                (a - ((0 : Nat) + n)) b_1)]]
                  []
                  (AB
                    (ledgerValid b ((0 : Nat) + n + (1 : Nat)) fun (i : Nat) =>
                      intOf
                        (if i < (0 : Nat) + n then
                          if i < (0 : Nat) then
                            setG [] (fun (x j : Nat) => PV.v ([Value.int IntKind.i64 (0 : Int)].getD j undef)) i
                              (0 : Nat)
                          else PI (intOf (PI (f (i - (0 : Nat)))))
                        else
                          setG [((0 : Nat), (0 : Nat), PV.v (Value.int IntKind.i64 c))]
                            (fun (x j : Nat) => PV.v ([Value.int IntKind.i64 (0 : Int)].getD j undef))
                            (i - ((0 : Nat) + n)) (0 : Nat))))
                  []
                  (VC.split
                    (!ledgerValid b ((0 : Nat) + n + (1 : Nat)) fun (i : Nat) =>
                        intOf
                          (if i < (0 : Nat) + n then
                            if i < (0 : Nat) then
                              setG [] (fun (x j : Nat) => PV.v ([Value.int IntKind.i64 (0 : Int)].getD j undef)) i
                                (0 : Nat)
                            else PI (intOf (PI (f (i - (0 : Nat)))))
                          else
                            setG [((0 : Nat), (0 : Nat), PV.v (Value.int IntKind.i64 c))]
                              (fun (x j : Nat) => PV.v ([Value.int IntKind.i64 (0 : Int)].getD j undef))
                              (i - ((0 : Nat) + n)) (0 : Nat)))
                    (VC.done
                      {
                        env :=
                          [((0 : Nat),
                              AV.ag
                                [AV.p true (PV.v (Value.int IntKind.i64 b)),
                                  AV.p false (PV.sl nn (1 : Nat) n fun (i x : Nat) => PI (f i))]),
                            ((1 : Nat), AV.p true (PV.v (Value.int IntKind.i64 c))),
                            ((2 : Nat), AV.adr (2 : Nat) (0 : Nat)), ((4 : Nat), AV.adr (4 : Nat) (0 : Nat)),
                            ((5 : Nat), AV.p true (PV.v (Value.bool false))),
                            ((12 : Nat),
                              AV.p true
                                (PV.v (Value.bool !ledgerValid b n fun (i : Nat) => intOf (PI (intOf (PI (f i))))))),
                            ((6 : Nat), AV.adr (6 : Nat) (0 : Nat)), ((7 : Nat), AV.adr (7 : Nat) (0 : Nat)),
                            ((33 : Nat),
                              AV.p true
                                (PV.v
                                  (Value.bool
                                    !ledgerValid b ((0 : Nat) + n + (1 : Nat)) fun (i : Nat) =>
                                        intOf
                                          (if i < (0 : Nat) + n then
                                            if i < (0 : Nat) then
                                              setG []
                                                (fun (x j : Nat) =>
                                                  PV.v ([Value.int IntKind.i64 (0 : Int)].getD j undef))
                                                i (0 : Nat)
                                            else PI (intOf (PI (f (i - (0 : Nat)))))
                                          else
                                            setG [((0 : Nat), (0 : Nat), PV.v (Value.int IntKind.i64 c))]
                                              (fun (x j : Nat) => PV.v ([Value.int IntKind.i64 (0 : Int)].getD j undef))
                                              (i - ((0 : Nat) + n)) (0 : Nat)))))],
                        H :=
                          [((2 : Nat), Ob.box [AV.p true (PV.v (Value.int IntKind.i64 b)), AV.own (1009 : Nat)]),
                            ((4 : Nat), Ob.box [AV.p true (PV.v (Value.int IntKind.i64 b)), AV.own (19 : Nat)]),
                            ((1009 : Nat),
                              Ob.row Mode.u true (1 : Nat) n (fun (i x : Nat) => PI (intOf (PI (f i)))) []),
                            ((19 : Nat),
                              Ob.row Mode.u true (1 : Nat) ((0 : Nat) + n)
                                (fun (a b_1 : Nat) =>
                                  if a < (0 : Nat) then
                                    setG [] (fun (x j : Nat) => PV.v ([Value.int IntKind.i64 (0 : Int)].getD j undef)) a
                                      b_1
                                  else PI (intOf (PI (f (a - (0 : Nat))))))
                                []),
                            ((6 : Nat), Ob.box [AV.p true (PV.v (Value.int IntKind.i64 b)), AV.own (19 : Nat)]),
                            ((29 : Nat),
                              Ob.row Mode.u true (1 : Nat) ((0 : Nat) + n + (1 : Nat))
                                (fun (a b_1 : Nat) =>
                                  if a < (0 : Nat) + n then
                                    if a < (0 : Nat) then
                                      setG [] (fun (x j : Nat) => PV.v ([Value.int IntKind.i64 (0 : Int)].getD j undef))
                                        a b_1
                                    else PI (intOf (PI (f (a - (0 : Nat)))))
                                  else
                                    setG [((0 : Nat), (0 : Nat), PV.v (Value.int IntKind.i64 c))]
                                      (fun (x j : Nat) => PV.v ([Value.int IntKind.i64 (0 : Int)].getD j undef))
                                      (a - ((0 : Nat) + n)) b_1)
                                []),
                            ((7 : Nat), Ob.box [AV.p true (PV.v (Value.int IntKind.i64 b)), AV.own (29 : Nat)])] })
                    (VC.done
                      {
                        env :=
                          [((0 : Nat),
                              AV.ag
                                [AV.p true (PV.v (Value.int IntKind.i64 b)),
                                  AV.p false (PV.sl nn (1 : Nat) n fun (i x : Nat) => PI (f i))]),
                            ((1 : Nat), AV.p true (PV.v (Value.int IntKind.i64 c))),
                            ((2 : Nat), AV.adr (2 : Nat) (0 : Nat)), ((4 : Nat), AV.adr (4 : Nat) (0 : Nat)),
                            ((5 : Nat), AV.p true (PV.v (Value.bool true))),
                            ((12 : Nat),
                              AV.p true
                                (PV.v (Value.bool !ledgerValid b n fun (i : Nat) => intOf (PI (intOf (PI (f i))))))),
                            ((6 : Nat), AV.adr (6 : Nat) (0 : Nat)), ((7 : Nat), AV.adr (7 : Nat) (0 : Nat)),
                            ((33 : Nat),
                              AV.p true
                                (PV.v
                                  (Value.bool
                                    !ledgerValid b ((0 : Nat) + n + (1 : Nat)) fun (i : Nat) =>
                                        intOf
                                          (if i < (0 : Nat) + n then
                                            if i < (0 : Nat) then
                                              setG []
                                                (fun (x j : Nat) =>
                                                  PV.v ([Value.int IntKind.i64 (0 : Int)].getD j undef))
                                                i (0 : Nat)
                                            else PI (intOf (PI (f (i - (0 : Nat)))))
                                          else
                                            setG [((0 : Nat), (0 : Nat), PV.v (Value.int IntKind.i64 c))]
                                              (fun (x j : Nat) => PV.v ([Value.int IntKind.i64 (0 : Int)].getD j undef))
                                              (i - ((0 : Nat) + n)) (0 : Nat)))))],
                        H :=
                          [((2 : Nat), Ob.box [AV.p true (PV.v (Value.int IntKind.i64 b)), AV.own (1009 : Nat)]),
                            ((4 : Nat), Ob.box [AV.p true (PV.v (Value.int IntKind.i64 b)), AV.own (29 : Nat)]),
                            ((1009 : Nat),
                              Ob.row Mode.u true (1 : Nat) n (fun (i x : Nat) => PI (intOf (PI (f i)))) []),
                            ((19 : Nat),
                              Ob.row Mode.u true (1 : Nat) ((0 : Nat) + n)
                                (fun (a b_1 : Nat) =>
                                  if a < (0 : Nat) then
                                    setG [] (fun (x j : Nat) => PV.v ([Value.int IntKind.i64 (0 : Int)].getD j undef)) a
                                      b_1
                                  else PI (intOf (PI (f (a - (0 : Nat))))))
                                []),
                            ((6 : Nat), Ob.box [AV.p true (PV.v (Value.int IntKind.i64 b)), AV.own (19 : Nat)]),
                            ((29 : Nat),
                              Ob.row Mode.u true (1 : Nat) ((0 : Nat) + n + (1 : Nat))
                                (fun (a b_1 : Nat) =>
                                  if a < (0 : Nat) + n then
                                    if a < (0 : Nat) then
                                      setG [] (fun (x j : Nat) => PV.v ([Value.int IntKind.i64 (0 : Int)].getD j undef))
                                        a b_1
                                    else PI (intOf (PI (f (a - (0 : Nat)))))
                                  else
                                    setG [((0 : Nat), (0 : Nat), PV.v (Value.int IntKind.i64 c))]
                                      (fun (x j : Nat) => PV.v ([Value.int IntKind.i64 (0 : Int)].getD j undef))
                                      (a - ((0 : Nat) + n)) b_1)
                                []),
                            ((7 : Nat),
                              Ob.box [AV.p true (PV.v (Value.int IntKind.i64 b)), AV.own (29 : Nat)])] })))))))) := by
  intros; kernel_rfl
theorem spend_cell {n : Nat} {f : Nat → Int} {c : Int} {z : Nat → Nat → PV} {y : Nat → PV} (i : Nat) (hi : i < n + 1) :
    intOf (if i < 0 + n then if i < 0 then y i else PI (f (i - 0)) else setG [(0, 0, PV.v (Value.int IntKind.i64 c))] z (i - (0 + n)) 0) = snoc f n c i := by
  by_cases h1 : i < n
  · simp [snoc, h1, intOf]
  · have : i - n = 0 := by omega
    simp [snoc, h1, this, setG, cellSet, intOf]
theorem c_spSC0 (b : Int) (nn : Bool) (n : Nat) (f : Nat → Int) (c : Int) (hn : n ≤ 1048576) : PObj Tryd.prog G0 30 [.ag [AI b, IL nn n f], AI c] [] (spendR b n f c) (spendH b n f c) := by
  refine PObj.by chk30 rfl (ev_spSC b nn n f c) ?_
  simp only [VC.holds_split, VC.holds_need, VC.holds_doneP, VC.holds_done, VC.holds_either, VC.holds_call, VC.holds_callE, VC.holds_lend, VC.holds_stop, VC.holds_fail, decide_eq_true_eq, decide_eq_false_iff_not]
  refine ⟨c_own _ _ _ _ (int_cells _ _) hn, c_spLV _ _ _ _ (int_cells _ _) (by omega), fun h => ?_, fun h => ⟨⟨by omega, allV_ints _ _⟩, ⟨by omega, allV_ints _ _⟩, ⟨by omega, ?_⟩, c_spLV _ _ _ _ ?_ (by omega), fun h2 => ?_, fun h2 => ?_⟩⟩
  · have hv := lv_split h rfl (fun i hi => (rfl : _ = f i))
    have e1 : spendB b n f = 0 := by simp [spendB, hv]
    have e2 : spendOk b n f c = false := by simp [spendOk, hv]
    have e3 : spendN b n f c = 0 := by simp [spendN, hv]
    simp only [spendR, spendH, e1, e2, e3]
    refine ResOk.mk [] [] [0] _ _ ?_ ⟨rfl, rfl⟩
    simp [doneC, resOf, resAV, tup, pinR, hbs, St.lowers, St.lower, stLe, leEnv, leObs, obLe, injB, pinC, AV.leC, AV.leCs, PV.leC, PV.Le_v, St.get, St.obj, look, rho, isNew, keptC, renH, Mode.ok, Mode.isZ, PV.isVal, PV.isNilSl, List.all_nil, List.all_cons, List.any_nil, List.any_cons, List.map_nil, List.map_cons, res30]
  · intro i j hi hj
    obtain rfl : i = 0 := by omega
    obtain rfl : j = 0 := by omega
    rfl
  · intro i j hi hj
    obtain rfl : j = 0 := by omega
    by_cases h1 : i < n
    · simp [h1, intOf]
    · have : i - n = 0 := by omega
      simp [h1, this, setG, cellSet, intOf]
  · have hv := lv_split h rfl (fun i hi => (rfl : _ = f i))
    have hv2 := lv_split (n := n + 1) (G := snoc f n c) h2 (by omega) (fun i hi => spend_cell (y := fun i => setG [] (fun (x j : Nat) => PV.v ([Value.int IntKind.i64 (0 : Int)].getD j undef)) i 0) i hi)
    have e1 : spendB b n f = b := by simp [spendB, hv]
    have e2 : spendOk b n f c = false := by simp [spendOk, hv2]
    have e3 : spendN b n f c = n := by simp [spendN, hv, hv2]
    simp only [spendR, spendH, e1, e2, e3]
    refine ResOk.mk [] [(0, 19)] [] _ _ ?_ ⟨rfl, rfl⟩
    simp [doneC, resOf, resAV, tup, pinR, hbs, St.lowers, St.lower, stLe, leEnv, leObs, obLe, injB, pinC, AV.leC, AV.leCs, PV.leC, PV.Le_v, St.get, St.obj, look, rho, isNew, keptC, renH, Mode.ok, Mode.isZ, PV.isVal, PV.isNilSl, List.all_nil, List.all_cons, List.any_nil, List.any_cons, List.map_nil, List.map_cons, res30]
    intro i hi
    simp [snoc, hi, intOf]
  · have hv := lv_split h rfl (fun i hi => (rfl : _ = f i))
    have hv2 := lv_split (n := n + 1) (G := snoc f n c) h2 (by omega) (fun i hi => spend_cell (y := fun i => setG [] (fun (x j : Nat) => PV.v ([Value.int IntKind.i64 (0 : Int)].getD j undef)) i 0) i hi)
    have e1 : spendB b n f = b := by simp [spendB, hv]
    have e2 : spendOk b n f c = true := by simp [spendOk, hv, hv2]
    have e3 : spendN b n f c = n + 1 := by simp [spendN, hv, hv2]
    simp only [spendR, spendH, e1, e2, e3]
    refine ResOk.mk [] [(0, 29)] [] _ _ ?_ ⟨rfl, rfl⟩
    simp [doneC, resOf, resAV, tup, pinR, hbs, St.lowers, St.lower, stLe, leEnv, leObs, obLe, injB, pinC, AV.leC, AV.leCs, PV.leC, PV.Le_v, St.get, St.obj, look, rho, isNew, keptC, renH, Mode.ok, Mode.isZ, PV.isVal, PV.isNilSl, List.all_nil, List.all_cons, List.any_nil, List.any_cons, List.map_nil, List.map_cons, res30]
    intro i hi
    by_cases h1 : i < n
    · simp [snoc, h1, intOf]; exact .refl _
    · have : i - n = 0 := by omega
      simp [snoc, h1, this, setG, cellSet]; exact .refl _
def in_imSC (b : Int) (nn : Bool) (n : Nat) (f : Nat → Int) (c : Int) := (G0, res28, ([] : List (Nat × Ob)), [Item.ir ir28], start [.ag [AI b, IL nn n f], AI c] [])
theorem ev_imSC : ∀ (b : Int) (nn : Bool) (n : Nat) (f : Nat → Int) (c : Int),
  ev G0 res28 [] (3000 : Nat)
      (Or.call [] (AB (ledgerValid b n fun (i : Nat) => intOf (PI (f i)))) []
        (Or.nil.split
          (Or.call []
            (AB
              (ledgerValid b (n + (1 : Nat)) fun (i : Nat) =>
                intOf
                  (if i < n then PI (f i)
                  else
                    setG [((0 : Nat), (0 : Nat), PV.v (Value.int IntKind.i64 c))]
                      (fun (x j : Nat) => PV.v ([Value.int IntKind.i64 (0 : Int)].getD j undef)) (i - n) (0 : Nat))))
            [] (Or.nil.split Or.nil))))
      [Item.ir ir28] (start [AV.ag [AI b, IL nn n f], AI c] []) =
    VC.call (19 : Nat)
      [AV.ag
          [AV.p true (PV.v (Value.int IntKind.i64 b)), AV.p false (PV.sl nn (1 : Nat) n fun (i x : Nat) => PI (f i))]]
      [] (AB (ledgerValid b n fun (i : Nat) => intOf (PI (f i)))) []
      (VC.split (!ledgerValid b n fun (i : Nat) => intOf (PI (f i)))
        (VC.done
          {
            env :=
              [((0 : Nat),
                  AV.ag
                    [AV.p true (PV.v (Value.int IntKind.i64 b)),
                      AV.p false (PV.sl nn (1 : Nat) n fun (i x : Nat) => PI (f i))]),
                ((1 : Nat), AV.p true (PV.v (Value.int IntKind.i64 c))), ((2 : Nat), AV.adr (2 : Nat) (0 : Nat)),
                ((4 : Nat), AV.adr (4 : Nat) (0 : Nat)), ((5 : Nat), AV.p true (PV.v (Value.bool false))),
                ((9 : Nat), AV.p true (PV.v (Value.bool !ledgerValid b n fun (i : Nat) => intOf (PI (f i)))))],
            H :=
              [((2 : Nat),
                  Ob.box
                    [AV.p true (PV.v (Value.int IntKind.i64 b)),
                      AV.p false (PV.sl nn (1 : Nat) n fun (i x : Nat) => PI (f i))]),
                ((4 : Nat),
                  Ob.box
                    [AV.p true (PV.v (Value.int IntKind.i64 (0 : Int))),
                      AV.p true (PV.v (Value.slice none (0 : Nat) (0 : Nat)))])] })
        (VC.need
          ((n * (8 : Nat) ≤ (140737488355328 : Nat) ∧ (↑n : Int) ≤ (9223372036854775807 : Int)) ∧
            allV (1 : Nat) n fun (i x : Nat) => PI (f i))
          (VC.need
            (((n + (1 : Nat)) * (8 : Nat) ≤ (140737488355328 : Nat) ∧
                (↑(n + (1 : Nat)) : Int) ≤ (9223372036854775807 : Int)) ∧
              allV (1 : Nat) (1 : Nat)
                (setG [((0 : Nat), (0 : Nat), PV.v (Value.int IntKind.i64 c))] fun (x j : Nat) =>
                  PV.v ([Value.int IntKind.i64 (0 : Int)].getD j undef)))
            (VC.call (19 : Nat)
              [AV.ag
                  [AV.p true (PV.v (Value.int IntKind.i64 b)),
                    AV.p false
                      (PV.sl false (1 : Nat) (n + (1 : Nat)) fun (a b_1 : Nat) =>
                        if a < n then PI (f a)
                        else
                          setG [((0 : Nat), (0 : Nat), PV.v (Value.int IntKind.i64 c))]
                            (fun (x j : Nat) => PV.v ([Value.int IntKind.i64 (0 : Int)].getD j undef)) (a - n) b_1)]]
              []
              (AB
                (ledgerValid b (n + (1 : Nat)) fun (i : Nat) =>
                  intOf
                    (if i < n then PI (f i)
                    else
                      setG [((0 : Nat), (0 : Nat), PV.v (Value.int IntKind.i64 c))]
                        (fun (x j : Nat) => PV.v ([Value.int IntKind.i64 (0 : Int)].getD j undef)) (i - n) (0 : Nat))))
              []
              (VC.split
                (!ledgerValid b (n + (1 : Nat)) fun (i : Nat) =>
                    intOf
                      (if i < n then PI (f i)
                      else
                        setG [((0 : Nat), (0 : Nat), PV.v (Value.int IntKind.i64 c))]
                          (fun (x j : Nat) => PV.v ([Value.int IntKind.i64 (0 : Int)].getD j undef)) (i - n) (0 : Nat)))
                (VC.need
                  ((n * (8 : Nat) ≤ (140737488355328 : Nat) ∧ (↑n : Int) ≤ (9223372036854775807 : Int)) ∧
                    allV (1 : Nat) n fun (i x : Nat) => PI (f i))
                  (VC.done
                    {
                      env :=
                        [((0 : Nat),
                            AV.ag
                              [AV.p true (PV.v (Value.int IntKind.i64 b)),
                                AV.p false (PV.sl nn (1 : Nat) n fun (i x : Nat) => PI (f i))]),
                          ((1 : Nat), AV.p true (PV.v (Value.int IntKind.i64 c))),
                          ((2 : Nat), AV.adr (2 : Nat) (0 : Nat)), ((4 : Nat), AV.adr (4 : Nat) (0 : Nat)),
                          ((5 : Nat), AV.p true (PV.v (Value.bool false))),
                          ((9 : Nat), AV.p true (PV.v (Value.bool !ledgerValid b n fun (i : Nat) => intOf (PI (f i))))),
                          ((6 : Nat), AV.adr (6 : Nat) (0 : Nat)),
                          ((22 : Nat),
                            AV.p true
                              (PV.v
                                (Value.bool
                                  !ledgerValid b (n + (1 : Nat)) fun (i : Nat) =>
                                      intOf
                                        (if i < n then PI (f i)
                                        else
                                          setG [((0 : Nat), (0 : Nat), PV.v (Value.int IntKind.i64 c))]
                                            (fun (x j : Nat) => PV.v ([Value.int IntKind.i64 (0 : Int)].getD j undef))
                                            (i - n) (0 : Nat)))))],
                      H :=
                        [((2 : Nat),
                            Ob.box
                              [AV.p true (PV.v (Value.int IntKind.i64 b)),
                                AV.p false (PV.sl nn (1 : Nat) n fun (i x : Nat) => PI (f i))]),
                          ((4 : Nat), Ob.box [AV.p true (PV.v (Value.int IntKind.i64 b)), AV.own (27 : Nat)]),
                          ((18 : Nat),
                            Ob.row Mode.u false (1 : Nat) (n + (1 : Nat))
                              (fun (a b_1 : Nat) =>
                                if a < n then PI (f a)
                                else
                                  setG [((0 : Nat), (0 : Nat), PV.v (Value.int IntKind.i64 c))]
                                    (fun (x j : Nat) => PV.v ([Value.int IntKind.i64 (0 : Int)].getD j undef)) (a - n)
                                    b_1)
                              []),
                          ((6 : Nat), Ob.box [AV.p true (PV.v (Value.int IntKind.i64 b)), AV.own (18 : Nat)]),
                          ((27 : Nat), Ob.row Mode.u false (1 : Nat) n (fun (i x : Nat) => PI (f i)) [])] }))
                (VC.done
                  {
                    env :=
                      [((0 : Nat),
                          AV.ag
                            [AV.p true (PV.v (Value.int IntKind.i64 b)),
                              AV.p false (PV.sl nn (1 : Nat) n fun (i x : Nat) => PI (f i))]),
                        ((1 : Nat), AV.p true (PV.v (Value.int IntKind.i64 c))),
                        ((2 : Nat), AV.adr (2 : Nat) (0 : Nat)), ((4 : Nat), AV.adr (4 : Nat) (0 : Nat)),
                        ((5 : Nat), AV.p true (PV.v (Value.bool true))),
                        ((9 : Nat), AV.p true (PV.v (Value.bool !ledgerValid b n fun (i : Nat) => intOf (PI (f i))))),
                        ((6 : Nat), AV.adr (6 : Nat) (0 : Nat)),
                        ((22 : Nat),
                          AV.p true
                            (PV.v
                              (Value.bool
                                !ledgerValid b (n + (1 : Nat)) fun (i : Nat) =>
                                    intOf
                                      (if i < n then PI (f i)
                                      else
                                        setG [((0 : Nat), (0 : Nat), PV.v (Value.int IntKind.i64 c))]
                                          (fun (x j : Nat) => PV.v ([Value.int IntKind.i64 (0 : Int)].getD j undef))
                                          (i - n) (0 : Nat)))))],
                    H :=
                      [((2 : Nat),
                          Ob.box
                            [AV.p true (PV.v (Value.int IntKind.i64 b)),
                              AV.p false (PV.sl nn (1 : Nat) n fun (i x : Nat) => PI (f i))]),
                        ((4 : Nat), Ob.box [AV.p true (PV.v (Value.int IntKind.i64 b)), AV.own (18 : Nat)]),
                        ((18 : Nat),
                          Ob.row Mode.u false (1 : Nat) (n + (1 : Nat))
                            (fun (a b_1 : Nat) =>
                              if a < n then PI (f a)
                              else
                                setG [((0 : Nat), (0 : Nat), PV.v (Value.int IntKind.i64 c))]
                                  (fun (x j : Nat) => PV.v ([Value.int IntKind.i64 (0 : Int)].getD j undef)) (a - n)
                                  b_1)
                            []),
                        ((6 : Nat), Ob.box [AV.p true (PV.v (Value.int IntKind.i64 b)), AV.own (18 : Nat)])] })))))) := by
  intros; kernel_rfl
theorem spend_cell' {n : Nat} {f : Nat → Int} {c : Int} {z : Nat → Nat → PV} (i : Nat) (hi : i < n + 1) :
    intOf (if i < n then PI (f i) else setG [(0, 0, PV.v (Value.int IntKind.i64 c))] z (i - n) 0) = snoc f n c i := by
  by_cases h1 : i < n
  · simp [snoc, h1, intOf]
  · have : i - n = 0 := by omega
    simp [snoc, h1, this, setG, cellSet, intOf]
theorem c_imSC0 (b : Int) (nn : Bool) (n : Nat) (f : Nat → Int) (c : Int) (hn : n ≤ 1048576) : PObj Tryd.prog G0 28 [.ag [AI b, IL nn n f], AI c] [] (spendR b n f c) (spendH b n f c) := by
  refine PObj.by chk28 rfl (ev_imSC b nn n f c) ?_
  simp only [VC.holds_split, VC.holds_need, VC.holds_doneP, VC.holds_done, VC.holds_either, VC.holds_call, VC.holds_callE, VC.holds_lend, VC.holds_stop, VC.holds_fail, decide_eq_true_eq, decide_eq_false_iff_not]
  refine ⟨c_imLV _ _ _ _ (int_cells _ _) (by omega), fun h => ?_, fun h => ⟨⟨by omega, allV_ints _ _⟩, ⟨by omega, ?_⟩, c_imLV _ _ _ _ ?_ (by omega), fun h2 => ⟨⟨by omega, allV_ints _ _⟩, ?_⟩, fun h2 => ?_⟩⟩
  · have hv := lv_split h rfl (fun i hi => (rfl : _ = f i))
    have e1 : spendB b n f = 0 := by simp [spendB, hv]
    have e2 : spendOk b n f c = false := by simp [spendOk, hv]
    have e3 : spendN b n f c = 0 := by simp [spendN, hv]
    simp only [spendR, spendH, e1, e2, e3]
    refine ResOk.mk [] [] [0] _ _ ?_ ⟨rfl, rfl⟩
    simp [doneC, resOf, resAV, tup, pinR, hbs, St.lowers, St.lower, stLe, leEnv, leObs, obLe, injB, pinC, AV.leC, AV.leCs, PV.leC, PV.Le_v, St.get, St.obj, look, rho, isNew, keptC, renH, Mode.ok, Mode.isZ, PV.isVal, PV.isNilSl, List.all_nil, List.all_cons, List.any_nil, List.any_cons, List.map_nil, List.map_cons, res28]
  · intro i j hi hj
    obtain rfl : i = 0 := by omega
    obtain rfl : j = 0 := by omega
    rfl
  · intro i j hi hj
    obtain rfl : j = 0 := by omega
    by_cases h1 : i < n
    · simp [h1, intOf]
    · have : i - n = 0 := by omega
      simp [h1, this, setG, cellSet, intOf]
  · have hv := lv_split h rfl (fun i hi => (rfl : _ = f i))
    have hv2 := lv_split (n := n + 1) (G := snoc f n c) h2 (by omega) (fun i hi => spend_cell' i hi)
    have e1 : spendB b n f = b := by simp [spendB, hv]
    have e2 : spendOk b n f c = false := by simp [spendOk, hv2]
    have e3 : spendN b n f c = n := by simp [spendN, hv, hv2]
    simp only [spendR, spendH, e1, e2, e3]
    refine ResOk.mk [] [(0, 27)] [] _ _ ?_ ⟨rfl, rfl⟩
    simp [doneC, resOf, resAV, tup, pinR, hbs, St.lowers, St.lower, stLe, leEnv, leObs, obLe, injB, pinC, AV.leC, AV.leCs, PV.leC, PV.Le_v, St.get, St.obj, look, rho, isNew, keptC, renH, Mode.ok, Mode.isZ, PV.isVal, PV.isNilSl, List.all_nil, List.all_cons, List.any_nil, List.any_cons, List.map_nil, List.map_cons, res28]
    intro i hi
    simp [snoc, hi]
  · have hv := lv_split h rfl (fun i hi => (rfl : _ = f i))
    have hv2 := lv_split (n := n + 1) (G := snoc f n c) h2 (by omega) (fun i hi => spend_cell' i hi)
    have e1 : spendB b n f = b := by simp [spendB, hv]
    have e2 : spendOk b n f c = true := by simp [spendOk, hv, hv2]
    have e3 : spendN b n f c = n + 1 := by simp [spendN, hv, hv2]
    simp only [spendR, spendH, e1, e2, e3]
    refine ResOk.mk [] [(0, 18)] [] _ _ ?_ ⟨rfl, rfl⟩
    simp [doneC, resOf, resAV, tup, pinR, hbs, St.lowers, St.lower, stLe, leEnv, leObs, obLe, injB, pinC, AV.leC, AV.leCs, PV.leC, PV.Le_v, St.get, St.obj, look, rho, isNew, keptC, renH, Mode.ok, Mode.isZ, PV.isVal, PV.isNilSl, List.all_nil, List.all_cons, List.any_nil, List.any_cons, List.map_nil, List.map_cons, res28]
    intro i hi
    by_cases h1 : i < n
    · simp [snoc, h1]; exact .refl _
    · have : i - n = 0 := by omega
      simp [snoc, h1, this, setG, cellSet]; exact .refl _
theorem spend_congr {b : Int} {n : Nat} {f g : Nat → Int} {c : Int} (h : ∀ i, i < n → f i = g i) : spendB b n f = spendB b n g ∧ spendOk b n f c = spendOk b n g c ∧ spendN b n f c = spendN b n g c := by
  have h1 := ledgerValid_congr (b := b) h
  have h2 : ledgerValid b (n + 1) (snoc f n c) = ledgerValid b (n + 1) (snoc g n c) := ledgerValid_congr fun i hi => by
    by_cases hh : i < n
    · simp [snoc, hh, h i hh]
    · simp [snoc, hh]
  simp [spendB, spendOk, spendN, h1, h2]
theorem LG_le2 {b c : Int} {nn : Bool} {n : Nat} {g : Nat → Nat → PV} (hg : IntCells 1 n g) : AV.lePs [LG b nn n g, AI c] [.ag [AI b, IL nn n fun i => intOf (g i 0)], AI c] := ⟨⟨AV.leP_p _ _, AV.leP_ints hg, trivial⟩, AV.leP_p _ _, trivial⟩
theorem c_spSC (b : Int) (nn : Bool) (n : Nat) (g : Nat → Nat → PV) (c : Int) (hg : IntCells 1 n g) (hn : n ≤ 1048576) : PObj Tryd.prog G0 30 [LG b nn n g, AI c] [] (spendR b n (fun i => intOf (g i 0)) c) (spendH b n (fun i => intOf (g i 0)) c) :=
  (c_spSC0 b nn n _ c hn).args (LG_le2 hg) trivial
theorem c_imSC (b : Int) (nn : Bool) (n : Nat) (g : Nat → Nat → PV) (c : Int) (hg : IntCells 1 n g) (hn : n ≤ 1048576) : PObj Tryd.prog G0 28 [LG b nn n g, AI c] [] (spendR b n (fun i => intOf (g i 0)) c) (spendH b n (fun i => intOf (g i 0)) c) :=
  (c_imSC0 b nn n _ c hn).args (LG_le2 hg) trivial

theorem spendN_le (b : Int) (n : Nat) (f : Nat → Int) (c : Int) : spendN b n f c ≤ n + 1 := by
  unfold spendN; split
  · split <;> omega
  · omega
end Go.Gw
