/- Spending from a ledger; with no condition. -/
import Derived.Test.YtmnfbiaelkdljaaLeftOf
import Derived.KernelRfl
namespace Go.Gw
open Go Go.Proofs
set_option linter.unusedSimpArgs false
set_option linter.unusedVariables false
set_option maxRecDepth 100000
def ir56 : Ir :=
  (.seq
  (.reg [] [o 1 (.box 2 (tt 0)),
    o 2 (.alloc [(.int .i64 0), (.slice none 0 0)])])
  (.seq
  (.reg [4] [o 4 (.load true 2 (tt 1)),
    o 3 (.alloc [(.int .i64 0), (.slice none 0 0)]),
    on (.store 2 (tt 3) (tt 4))])
  (.seq
  (.reg [5, 6, 7, 8, 9] [o 5 (.mkSl 1 0 [(.int .i64 0)] []),
    o 6 (.fadr 1 (tt 1)),
    o 7 (.load false 1 (tt 6)),
    o 8 (.app 1 8 true (tt 5) (tt 7)),
    o 9 (.fadr 1 (tt 3)),
    on (.store 1 (tt 9) (tt 8))])
  (.seq
  (.reg [10] [o 10 (.load true 2 (tt 3)),
    on (.store 2 (tt 2) (tt 10))])
  .ret))))
def keep56 : List Nat := [0, 1, 2, 3]
def res56 : List RI := [.cell true 2 2]
theorem chk56 : chk Try.prog 56 1 keep56 = some (ir56, res56) := by kernel_rfl
def ir30 : Ir :=
  (.seq
  (.reg [] [o 2 (.box 2 (tt 0)),
    o 4 (.mov (ci 0))])
  (.seq
  (.reg [5, 6, 7, 8] [o 5 (.fadr 1 (tt 2)),
    o 6 (.load false 1 (tt 5)),
    o 7 (.mov (tt 1)),
    o 8 (.call 26 [(tt 6), (tt 7)]),
    o 1 (.mov (tt 8))])
  (.seq
  (.reg [9] [o 9 (.mov (tt 1)),
    o 4 (.mov (tt 9))])
  .ret)))
def keep30 : List Nat := [0, 1, 2, 4]
def res30 : List RI := [.tmp 4]
theorem chk30 : chk Try.prog 30 2 keep30 = some (ir30, res30) := by kernel_rfl
def ir31 : Ir :=
  (.seq
  (.reg [] [o 2 (.box 2 (tt 0)),
    o 4 (.mov (ci 0))])
  (.seq
  (.reg [5, 6, 7, 8] [o 5 (.fadr 1 (tt 2)),
    o 6 (.load false 1 (tt 5)),
    o 7 (.mov (tt 1)),
    o 8 (.call 27 [(tt 6), (tt 7)]),
    o 1 (.mov (tt 8))])
  (.seq
  (.seq
  (.reg [9] [o 9 (.mov (tt 1)),
    o 10 (.bin .lss (tt 9) (ci 0))])
  (.cond (tt 10)
   (.seq
   (.reg [] [o 4 (.mov (ci (-1)))])
   .ret)
   .skip))
  (.seq
  (.reg [11] [o 11 (.mov (tt 1)),
    o 4 (.mov (tt 11))])
  .ret))))
def keep31 : List Nat := [0, 1, 2, 4, 10]
def res31 : List RI := [.tmp 4]
theorem chk31 : chk Try.prog 31 2 keep31 = some (ir31, res31) := by kernel_rfl
def ir28 : Ir :=
  (.seq
  (.reg [] [o 2 (.box 2 (tt 0)),
    o 4 (.alloc [(.int .i64 0), (.slice none 0 0)]),
    o 5 (.mov (cb false))])
  (.seq
  (.reg [8, 9] [o 8 (.load true 2 (tt 2)),
    o 9 (.call 56 [(tt 8)]),
    on (.store 2 (tt 2) (tt 9))])
  (.seq
  (.seq
  (.reg [10, 11] [o 10 (.load true 2 (tt 2)),
    o 11 (.call 12 [(tt 10)]),
    o 12 (.un .not (tt 11))])
  (.cond (tt 12)
   (.seq
   (.reg [13] [o 13 (.build [(.int .i64 0), (.slice none 0 0)] []),
     on (.store 2 (tt 4) (tt 13)),
     o 5 (.mov (cb false))])
   .ret)
   .skip))
  (.seq
  (.dreg [14, 15, 16, 17, 18, 19, 20] [0, 1, 0, 0, 8, 28, 63, 0, 255] [(1, 1015), (2, 16), (4, 1018), (5, 19), (7, 6)] [o 14 (.fadr 0 (tt 2)),
    o 15 (.load false 1 (tt 14)),
    o 16 (.mkSl 1 0 [(.int .i64 0)] []),
    o 17 (.fadr 1 (tt 2)),
    o 18 (.load false 1 (tt 17)),
    o 19 (.app 1 8 true (tt 16) (tt 18)),
    o 20 (.build [(.int .i64 0), (.slice none 0 0)] [(0, 1, (tt 15)), (1, 1, (tt 19))]),
    o 6 (.alloc [(.int .i64 0), (.slice none 0 0)]),
    on (.store 2 (tt 6) (tt 20))])
  (.seq
  (.dreg [21, 22, 23, 24, 25, 26, 27, 28, 29, 30] [0, 1, 0, 0, 8, 28, 0, 64, 252, 511, 0, 2047] [(1, 1022), (2, 23), (4, 1025), (5, 26), (7, 28), (8, 29), (10, 7)] [o 21 (.fadr 0 (tt 2)),
    o 22 (.load false 1 (tt 21)),
    o 23 (.mkSl 1 0 [(.int .i64 0)] []),
    o 24 (.fadr 1 (tt 2)),
    o 25 (.load false 1 (tt 24)),
    o 26 (.app 1 8 true (tt 23) (tt 25)),
    o 27 (.mov (tt 1)),
    o 28 (.mkSl 1 1 [(.int .i64 0)] [(0, (tt 27))]),
    o 29 (.app 1 8 true (tt 26) (tt 28)),
    o 30 (.build [(.int .i64 0), (.slice none 0 0)] [(0, 1, (tt 22)), (1, 1, (tt 29))]),
    o 7 (.alloc [(.int .i64 0), (.slice none 0 0)]),
    on (.store 2 (tt 7) (tt 30))])
  (.seq
  (.seq
  (.reg [31, 32] [o 31 (.load true 2 (tt 7)),
    o 32 (.call 12 [(tt 31)]),
    o 33 (.un .not (tt 32))])
  (.cond (tt 33)
   (.seq
   (.reg [34] [o 34 (.load true 2 (tt 6)),
     on (.store 2 (tt 4) (tt 34)),
     o 5 (.mov (cb false))])
   .ret)
   .skip))
  (.seq
  (.reg [35] [o 35 (.load true 2 (tt 7)),
    on (.store 2 (tt 4) (tt 35)),
    o 5 (.mov (cb true))])
  .ret)))))))
def keep28 : List Nat := [0, 1, 2, 4, 5, 6, 7, 12, 33]
def res28 : List RI := [.cell true 2 4, .tmp 5]
theorem chk28 : chk Try.prog 28 2 keep28 = some (ir28, res28) := by kernel_rfl
def ir29 : Ir :=
  (.seq
  (.reg [] [o 2 (.box 2 (tt 0)),
    o 4 (.alloc [(.int .i64 0), (.slice none 0 0)]),
    o 5 (.mov (cb false))])
  (.seq
  (.seq
  (.reg [7, 8] [o 7 (.load true 2 (tt 2)),
    o 8 (.call 14 [(tt 7)]),
    o 9 (.un .not (tt 8))])
  (.cond (tt 9)
   (.seq
   (.reg [10] [o 10 (.build [(.int .i64 0), (.slice none 0 0)] []),
     on (.store 2 (tt 4) (tt 10)),
     o 5 (.mov (cb false))])
   .ret)
   .skip))
  (.seq
  (.dreg [11, 12, 13, 14, 15, 16, 17, 18, 19] [0, 1, 0, 4, 12, 0, 32, 124, 255, 0, 1023] [(1, 1012), (3, 1014), (4, 15), (6, 17), (7, 18), (9, 6)] [o 11 (.fadr 0 (tt 2)),
    o 12 (.load false 1 (tt 11)),
    o 13 (.fadr 1 (tt 2)),
    o 14 (.load false 1 (tt 13)),
    o 15 (.app 1 8 true (.const (.slice none 0 0)) (tt 14)),
    o 16 (.mov (tt 1)),
    o 17 (.mkSl 1 1 [(.int .i64 0)] [(0, (tt 16))]),
    o 18 (.app 1 8 true (tt 15) (tt 17)),
    o 19 (.build [(.int .i64 0), (.slice none 0 0)] [(0, 1, (tt 12)), (1, 1, (tt 18))]),
    o 6 (.alloc [(.int .i64 0), (.slice none 0 0)]),
    on (.store 2 (tt 6) (tt 19))])
  (.seq
  (.seq
  (.reg [20, 21] [o 20 (.load true 2 (tt 6)),
    o 21 (.call 14 [(tt 20)]),
    o 22 (.un .not (tt 21))])
  (.cond (tt 22)
   (.seq
   (.dreg [23, 24, 25, 26, 27, 28] [0, 1, 0, 4, 12, 31, 63, 127] [(1, 1024), (3, 1026), (4, 27)] [o 23 (.fadr 0 (tt 2)),
     o 24 (.load false 1 (tt 23)),
     o 25 (.fadr 1 (tt 2)),
     o 26 (.load false 1 (tt 25)),
     o 27 (.app 1 8 true (.const (.slice none 0 0)) (tt 26)),
     o 28 (.build [(.int .i64 0), (.slice none 0 0)] [(0, 1, (tt 24)), (1, 1, (tt 27))]),
     on (.store 2 (tt 4) (tt 28)),
     o 5 (.mov (cb false))])
   .ret)
   .skip))
  (.seq
  (.reg [29] [o 29 (.load true 2 (tt 6)),
    on (.store 2 (tt 4) (tt 29)),
    o 5 (.mov (cb true))])
  .ret)))))
def keep29 : List Nat := [0, 1, 2, 4, 5, 6, 9, 22]
def res29 : List RI := [.cell true 2 4, .tmp 5]
theorem chk29 : chk Try.prog 29 2 keep29 = some (ir29, res29) := by kernel_rfl
def ir8 : Ir :=
  (.seq
  (.reg [] [o 2 (.box 2 (tt 0)),
    o 4 (.mov (cb false))])
  (.seq
  (.reg [] [o 5 (.mov (ci 1048576))])
  (.seq
  (.reg [16, 17, 18] [o 16 (.load true 2 (tt 2)),
    o 17 (.mov (tt 5)),
    o 18 (.call 11 [(tt 16), (tt 17)]),
    o 5 (.mov (tt 18))])
  (.seq
  (.seq
  (.reg [19] [o 19 (.mov (tt 5)),
    o 20 (.bin .lss (tt 19) (ci 0))])
  (.cond (tt 20)
   (.seq
   (.reg [] [o 4 (.mov (cb true))])
   .ret)
   .skip))
  (.seq
  (.reg [22, 23, 24, 25, 21, 26, 27] [o 22 (.load true 2 (tt 2)),
    o 23 (.call 13 [(tt 22)]),
    o 24 (.mov (tt 1)),
    o 25 (.call 28 [(tt 23), (tt 24)]),
    o 21 (.mov (tt 25)),
    o 26 (.ext (tt 21) 0),
    o 27 (.ext (tt 21) 1),
    o 6 (.alloc [(.int .i64 0), (.slice none 0 0)]),
    on (.store 2 (tt 6) (tt 26)),
    o 7 (.mov (tt 27))])
  (.seq
  (.reg [28, 29] [o 28 (.load true 2 (tt 2)),
    o 29 (.call 13 [(tt 28)]),
    o 8 (.alloc [(.int .i64 0), (.slice none 0 0)]),
    on (.store 2 (tt 8) (tt 29))])
  (.seq
  (.reg [31, 32, 33, 30, 34, 35] [o 31 (.load true 2 (tt 8)),
    o 32 (.mov (tt 1)),
    o 33 (.call 29 [(tt 31), (tt 32)]),
    o 30 (.mov (tt 33)),
    o 34 (.ext (tt 30) 0),
    o 35 (.ext (tt 30) 1),
    o 9 (.alloc [(.int .i64 0), (.slice none 0 0)]),
    on (.store 2 (tt 9) (tt 34)),
    o 10 (.mov (tt 35))])
  (.seq
  (.seq
  (.reg [36, 37, 38, 39, 40, 41, 42, 43] [o 36 (.load true 2 (tt 9)),
    o 37 (.load true 2 (tt 6)),
    o 38 (.call 15 [(tt 36), (tt 37)]),
    o 39 (.un .not (tt 38)),
    o 40 (.mov (tt 39)),
    og 41 40 false (.mov (tt 10)),
    og 42 40 false (.mov (tt 7)),
    og 43 40 false (.binB .neq (tt 41) (tt 42)),
    o 44 (.pick (tt 40) (cb true) (tt 43))])
  (.cond (tt 44)
   (.seq
   (.reg [] [o 4 (.mov (cb false))])
   .ret)
   .skip))
  (.seq
  (.seq
  (.dreg [45, 46, 47, 48] [0, 0, 2, 7, 15] [(0, 1045), (0, 2045), (1, 1046), (1, 2046), (2, 1047), (2, 2047), (2, 3047), (2, 4047), (2, 5047), (2, 6047), (2, 7047), (2, 8047), (3, 1048), (3, 2048), (3, 3048), (3, 4048), (3, 5048), (3, 6048), (3, 7048), (3, 8048)] [o 45 (.load true 2 (tt 8)),
    o 46 (.load true 2 (tt 2)),
    o 47 (.call 13 [(tt 46)]),
    o 48 (.call 15 [(tt 45), (tt 47)]),
    o 49 (.un .not (tt 48))])
  (.cond (tt 49)
   (.seq
   (.reg [] [o 4 (.mov (cb false))])
   .ret)
   .skip))
  (.seq
  (.reg [] [o 11 (.mov (ci 1))])
  (.seq
  (.reg [50, 51, 52] [o 50 (.load true 2 (tt 8)),
    o 51 (.mov (tt 11)),
    o 52 (.call 30 [(tt 50), (tt 51)]),
    o 11 (.mov (tt 52))])
  (.seq
  (.seq
  (.reg [53, 54, 55, 56, 57, 58, 59, 60, 61, 62, 63, 64] [o 53 (.mov (tt 11)),
    o 54 (.bin .lss (tt 53) (ci 0)),
    o 55 (.mov (tt 54)),
    og 56 55 false (.load true 2 (tt 9)),
    og 57 55 false (.load true 2 (tt 6)),
    og 58 55 false (.call 15 [(tt 56), (tt 57)]),
    og 59 55 false (.un .not (tt 58)),
    o 60 (.pick (tt 55) (cb true) (tt 59)),
    o 61 (.mov (tt 60)),
    og 62 61 false (.mov (tt 10)),
    og 63 61 false (.mov (tt 7)),
    og 64 61 false (.binB .neq (tt 62) (tt 63)),
    o 65 (.pick (tt 61) (cb true) (tt 64))])
  (.cond (tt 65)
   (.seq
   (.reg [] [o 4 (.mov (cb false))])
   .ret)
   .skip))
  (.seq
  (.reg [] [o 12 (.mov (ci 1))])
  (.seq
  (.reg [66, 67, 68] [o 66 (.load true 2 (tt 9)),
    o 67 (.mov (tt 12)),
    o 68 (.call 30 [(tt 66), (tt 67)]),
    o 12 (.mov (tt 68))])
  (.seq
  (.reg [] [o 13 (.mov (ci 1))])
  (.seq
  (.reg [69, 70, 71] [o 69 (.load true 2 (tt 9)),
    o 70 (.mov (tt 13)),
    o 71 (.call 31 [(tt 69), (tt 70)]),
    o 13 (.mov (tt 71))])
  (.seq
  (.seq
  (.reg [72] [o 72 (.mov (tt 13)),
    o 73 (.bin .lss (tt 72) (ci 0))])
  (.cond (tt 73)
   (.seq
   (.reg [] [o 4 (.mov (cb false))])
   .ret)
   .skip))
  (.seq
  (.seq
  (.reg [74, 75] [o 74 (.mov (tt 13)),
    o 75 (.mov (tt 12)),
    o 76 (.bin .neq (tt 74) (tt 75))])
  (.cond (tt 76)
   (.seq
   (.reg [] [o 4 (.mov (cb false))])
   .ret)
   .skip))
  (.seq
  (.reg [78, 79, 80, 81, 77, 82, 83] [o 78 (.load true 2 (tt 2)),
    o 79 (.call 13 [(tt 78)]),
    o 80 (.mov (tt 1)),
    o 81 (.call 29 [(tt 79), (tt 80)]),
    o 77 (.mov (tt 81)),
    o 82 (.ext (tt 77) 0),
    o 83 (.ext (tt 77) 1),
    o 14 (.alloc [(.int .i64 0), (.slice none 0 0)]),
    on (.store 2 (tt 14) (tt 82)),
    o 15 (.mov (tt 83))])
  (.seq
  (.seq
  (.reg [84, 85, 86, 87, 88, 89, 90, 91] [o 84 (.load true 2 (tt 14)),
    o 85 (.load true 2 (tt 6)),
    o 86 (.call 15 [(tt 84), (tt 85)]),
    o 87 (.un .not (tt 86)),
    o 88 (.mov (tt 87)),
    og 89 88 false (.mov (tt 15)),
    og 90 88 false (.mov (tt 7)),
    og 91 88 false (.binB .neq (tt 89) (tt 90)),
    o 92 (.pick (tt 88) (cb true) (tt 91))])
  (.cond (tt 92)
   (.seq
   (.reg [] [o 4 (.mov (cb false))])
   .ret)
   .skip))
  (.seq
  (.reg [] [o 13 (.mov (ci 1))])
  (.seq
  (.reg [93, 94, 95] [o 93 (.load true 2 (tt 9)),
    o 94 (.mov (tt 13)),
    o 95 (.call 31 [(tt 93), (tt 94)]),
    o 13 (.mov (tt 95))])
  (.seq
  (.seq
  (.reg [96] [o 96 (.mov (tt 13)),
    o 97 (.bin .lss (tt 96) (ci 0))])
  (.cond (tt 97)
   (.seq
   (.reg [] [o 4 (.mov (cb false))])
   .ret)
   .skip))
  (.seq
  (.seq
  (.reg [98, 99] [o 98 (.mov (tt 13)),
    o 99 (.mov (tt 12)),
    o 100 (.bin .neq (tt 98) (tt 99))])
  (.cond (tt 100)
   (.seq
   (.reg [] [o 4 (.mov (cb false))])
   .ret)
   .skip))
  (.seq
  (.reg [] [o 4 (.mov (cb true))])
  .ret)))))))))))))))))))))))))
def keep8 : List Nat := [0, 1, 2, 4, 5, 6, 7, 8, 9, 10, 11, 12, 13, 14, 15, 20, 44, 49, 65, 73, 76, 92, 97, 100]
def res8 : List RI := [.tmp 4]
theorem chk8 : chk Try.prog 8 2 keep8 = some (ir8, res8) := by kernel_rfl

def snoc (f : Nat → Int) (n : Nat) (c : Int) : Nat → Int := fun i => if i < n then f i else c

theorem lv_split {b : Int} {m n : Nat} {F G : Nat → Int} {x : Bool} (h : (!ledgerValid b m F) = x) (hm : m = n) (hF : ∀ i, i < n → F i = G i) : ledgerValid b n G = !x := by
  subst hm
  rw [← ledgerValid_congr hF, ← h, Bool.not_not]

/-! ### l1OwnLedger -/
def in_own (b : Int) (nn : Bool) (n : Nat) (f : Nat → Int) := (G0, res56, ([] : List (Nat × Ob)), [Item.ir ir56], start [.ag [AI b, IL nn n f]] [])
theorem ev_own : ∀ (b : Int) (nn : Bool) (n : Nat) (f : Nat → Int),
  ev G0 res56 [] (3000 : Nat) Or.nil [Item.ir ir56] (start [AV.ag [AI b, IL nn n f]] []) =
    VC.need
      ((((0 : Nat) + n) * (8 : Nat) ≤ (140737488355328 : Nat) ∧
          (↑((0 : Nat) + n) : Int) ≤ (9223372036854775807 : Int)) ∧
        allV (1 : Nat) n fun (i x : Nat) => PI (f i))
      (VC.done
        {
          env :=
            [((0 : Nat),
                AV.ag
                  [AV.p true (PV.v (Value.int IntKind.i64 b)),
                    AV.p false (PV.sl nn (1 : Nat) n fun (i x : Nat) => PI (f i))]),
              ((1 : Nat), AV.adr (1 : Nat) (0 : Nat)), ((2 : Nat), AV.adr (2 : Nat) (0 : Nat)),
              ((3 : Nat), AV.adr (3 : Nat) (0 : Nat))],
          H :=
            [((1 : Nat),
                Ob.box
                  [AV.p true (PV.v (Value.int IntKind.i64 b)),
                    AV.p false (PV.sl nn (1 : Nat) n fun (i x : Nat) => PI (f i))]),
              ((2 : Nat), Ob.box [AV.p true (PV.v (Value.int IntKind.i64 b)), AV.own (8 : Nat)]),
              ((3 : Nat), Ob.box [AV.p true (PV.v (Value.int IntKind.i64 b)), AV.own (8 : Nat)]),
              ((8 : Nat),
                Ob.row Mode.u true (1 : Nat) ((0 : Nat) + n)
                  (fun (a b_1 : Nat) =>
                    if a < (0 : Nat) then
                      setG [] (fun (x j : Nat) => PV.v ([Value.int IntKind.i64 (0 : Int)].getD j undef)) a b_1
                    else PI (f (a - (0 : Nat))))
                  [])] }) := by
  intros; kernel_rfl
theorem allV_ints (n : Nat) (f : Nat → Int) : allV 1 n (fun i _ => PI (f i)) := fun _ _ _ _ => rfl
theorem c_own0 (b : Int) (nn : Bool) (n : Nat) (f : Nat → Int) (hn : n ≤ 1048576) : PObj Try.prog G0 56 [.ag [AI b, IL nn n f]] [] (.ag [AI b, .own 0]) [(0, .row .u true 1 n (fun i _ => PI (f i)) [])] := by
  refine PObj.by chk56 rfl (ev_own b nn n f) ?_
  simp only [VC.holds_split, VC.holds_need, VC.holds_doneP, VC.holds_done, VC.holds_either, VC.holds_call, VC.holds_callE, VC.holds_lend, VC.holds_stop, VC.holds_fail, decide_eq_true_eq, decide_eq_false_iff_not]
  refine ⟨⟨by omega, allV_ints _ _⟩, ResOk.mk [] [(0, 8)] [] _ _ ?_ ⟨rfl, rfl⟩⟩
  simp [doneC, resOf, resAV, tup, pinR, St.lowers, St.lower, stLe, leEnv, leObs, obLe, injB, pinC, AV.leC, AV.leCs, PV.leC, PV.Le_v, St.get, St.obj, look, rho, isNew, keptC, renH, Mode.ok, Mode.isZ, PV.isVal, PV.isNilSl, List.all_nil, List.all_cons, List.any_nil, List.any_cons, List.map_nil, List.map_cons, res56]
theorem c_own (b : Int) (nn : Bool) (n : Nat) (g : Nat → Nat → PV) (hg : IntCells 1 n g) (hn : n ≤ 1048576) : PObj Try.prog G0 56 [LG b nn n g] [] (.ag [AI b, .own 0]) [(0, .row .u true 1 n (fun i _ => PI (intOf (g i 0))) [])] :=
  (c_own0 b nn n _ hn).args (LG_le hg) trivial

/-! ### markLedger, heldLedger -/
def in_markL (b : Int) (nn : Bool) (n : Nat) (g : Nat → Nat → PV) (v : Int) := (G0, res30, [(0, Ob.row .u nn 1 n g [])], [Item.ir ir30], start [.ag [AI b, .own 0], AI v] [(0, Ob.row .u nn 1 n g [])])
theorem ev_markL : ∀ (b : Int) (nn : Bool) (n : Nat) (g : Nat → Nat → PV) (v : Int),
  ev G0 res30 [((0 : Nat), Ob.row Mode.u nn (1 : Nat) n g [])] (3000 : Nat)
      (Or.call [(100000 : Nat)] (AI (v + (↑n : Int)))
        [((0 : Nat), Ob.row Mode.u nn (1 : Nat) n (fun (i x : Nat) => PI (v + (↑i : Int))) [])] Or.nil)
      [Item.ir ir30] (start [AV.ag [AI b, AV.own (0 : Nat)], AI v] [((0 : Nat), Ob.row Mode.u nn (1 : Nat) n g [])]) =
    VC.call (26 : Nat) [AV.own (0 : Nat), AV.p true (PV.v (Value.int IntKind.i64 v))]
      [((0 : Nat), Ob.row Mode.u nn (1 : Nat) n g [])] (AI (v + (↑n : Int)))
      [((0 : Nat), Ob.row Mode.u nn (1 : Nat) n (fun (i x : Nat) => PI (v + (↑i : Int))) [])]
      (VC.done
        {
          env :=
            [((0 : Nat), AV.ag [AV.p true (PV.v (Value.int IntKind.i64 b)), AV.own (100000 : Nat)]),
              ((1 : Nat), AV.p true (PV.v (Value.int IntKind.i64 (v + (↑n : Int))))),
              ((2 : Nat), AV.adr (2 : Nat) (0 : Nat)),
              ((4 : Nat), AV.p true (PV.v (Value.int IntKind.i64 (v + (↑n : Int)))))],
          H :=
            [((100000 : Nat), Ob.row Mode.u nn (1 : Nat) n (fun (i x : Nat) => PI (v + (↑i : Int))) []),
              ((2 : Nat), Ob.box [AV.p true (PV.v (Value.int IntKind.i64 b)), AV.own (100000 : Nat)])] }) := by
  intros; kernel_rfl
theorem c_markL (b : Int) (nn : Bool) (n : Nat) (g : Nat → Nat → PV) (v : Int) (hn : n ≤ 1048576000) (hv1 : -1048576000 ≤ v) (hv2 : v ≤ 1048576000) :
    PObj Try.prog G0 30 [.ag [AI b, .own 0], AI v] [(0, Ob.row .u nn 1 n g [])] (AI (v + n)) [(0, Ob.row .u nn 1 n (fun i _ => PI (v + i)) [])] := by
  refine PObj.by chk30 rfl (ev_markL b nn n g v) ?_
  simp only [VC.holds_split, VC.holds_need, VC.holds_doneP, VC.holds_done, VC.holds_either, VC.holds_call, VC.holds_callE, VC.holds_lend, VC.holds_stop, VC.holds_fail, decide_eq_true_eq, decide_eq_false_iff_not]
  refine ⟨c_markIntS nn n g v hn hv1 hv2, ResOk.mk [] [(0, 100000)] [] _ _ ?_ ⟨rfl, rfl⟩⟩
  simp [doneC, resOf, resAV, tup, pinR, St.lowers, St.lower, stLe, leEnv, leObs, obLe, injB, pinC, AV.leC, AV.leCs, PV.leC, PV.Le_v, St.get, St.obj, look, rho, isNew, keptC, renH, Mode.ok, Mode.isZ, PV.isVal, PV.isNilSl, List.all_nil, List.all_cons, List.any_nil, List.any_cons, List.map_nil, List.map_cons, res30, hbs]
def in_heldL (b : Int) (nn : Bool) (n : Nat) (g : Nat → Nat → PV) (v : Int) := (G0, res31, ([] : List (Nat × Ob)), [Item.ir ir31], start [LG b nn n g, AI v] [])
theorem ev_heldL : ∀ (b : Int) (nn : Bool) (n : Nat) (g : Nat → Nat → PV) (v : Int),
  ev G0 res31 [] (3000 : Nat) (Or.call [] (AI (v + (↑n : Int))) [] (Or.nil.split Or.nil)) [Item.ir ir31]
      (start [LG b nn n g, AI v] []) =
    VC.call (27 : Nat) [AV.p false (PV.sl nn (1 : Nat) n g), AV.p true (PV.v (Value.int IntKind.i64 v))] []
      (AI (v + (↑n : Int))) []
      (VC.split (decide (v + (↑n : Int) < (0 : Int))) (VC.doneP (AV.p true (PV.v (Value.int IntKind.i64 (-1 : Int)))))
        (VC.doneP (AV.p true (PV.v (Value.int IntKind.i64 (v + (↑n : Int))))))) := by
  intros; kernel_rfl
theorem c_heldL (b : Int) (nn : Bool) (n : Nat) (g : Nat → Nat → PV) (v : Int) (hg : ∀ i, i < n → g i 0 = PI (v + i)) (hn : n ≤ 1048576000) (hv1 : 0 ≤ v) (hv2 : v ≤ 1048576000) : PRet Try.prog G0 31 [LG b nn n g, AI v] (AI (v + n)) := by
  refine PRet.by chk31 (ev_heldL b nn n g v) ?_
  simp only [VC.holds_split, VC.holds_need, VC.holds_doneP, VC.holds_done, VC.holds_either, VC.holds_call, VC.holds_callE, VC.holds_lend, VC.holds_stop, VC.holds_fail, decide_eq_true_eq, decide_eq_false_iff_not]
  refine ⟨c_heldIntS nn n g v hg hn (by omega) hv2, fun h => by omega, fun h => by simp⟩

/-! ### SpendCost -/
def spendB (b : Int) (n : Nat) (f : Nat → Int) : Int := if ledgerValid b n f then b else 0
def spendOk (b : Int) (n : Nat) (f : Nat → Int) (c : Int) : Bool := ledgerValid b n f && ledgerValid b (n + 1) (snoc f n c)
def spendN (b : Int) (n : Nat) (f : Nat → Int) (c : Int) : Nat := if ledgerValid b n f then (if ledgerValid b (n + 1) (snoc f n c) then n + 1 else n) else 0
abbrev spendR (b : Int) (n : Nat) (f : Nat → Int) (c : Int) : AV := .tp [.ag [AI (spendB b n f), .own 0], AB (spendOk b n f c)]
abbrev spendH (b : Int) (n : Nat) (f : Nat → Int) (c : Int) : List (Nat × Ob) := [(0, .row .u false 1 (spendN b n f c) (fun i _ => PI (snoc f n c i)) [])]

def in_spSC (b : Int) (nn : Bool) (n : Nat) (f : Nat → Int) (c : Int) := (G0, res28, ([] : List (Nat × Ob)), [Item.ir ir28], start [.ag [AI b, IL nn n f], AI c] [])
theorem ev_spSC : ∀ (b : Int) (nn : Bool) (n : Nat) (f : Nat → Int) (c : Int),
  ev G0 res28 [] (3000 : Nat)
      (Or.call [] (AV.ag [AI b, AV.own (0 : Nat)])
        [((0 : Nat), Ob.row Mode.u true (1 : Nat) n (fun (i x : Nat) => PI (intOf (PI (f i)))) [])]
        (Or.call [] (AB (ledgerValid b n fun (i : Nat) => intOf (PI (intOf (PI (f i)))))) []
          (Or.nil.split
            (Or.call []
              (AB
                (ledgerValid b ((0 : Nat) + n + (1 : Nat)) fun (i : Nat) =>
                  intOf
                    (if i < (0 : Nat) + n then
                      if i < (0 : Nat) then
                        setG [] (fun (x j : Nat) => PV.v ([Value.int IntKind.i64 (0 : Int)].getD j undef)) i (0 : Nat)
                      else PI (intOf (PI (f (i - (0 : Nat)))))
                    else
                      setG [((0 : Nat), (0 : Nat), PV.v (Value.int IntKind.i64 c))]
                        (fun (x j : Nat) => PV.v ([Value.int IntKind.i64 (0 : Int)].getD j undef)) (i - ((0 : Nat) + n))
                        (0 : Nat))))
              [] (Or.nil.split Or.nil)))))
      [Item.ir ir28] (start [AV.ag [AI b, IL nn n f], AI c] []) =
    VC.call (56 : Nat)
      [AV.ag
          [AV.p true (PV.v (Value.int IntKind.i64 b)), AV.p false (PV.sl nn (1 : Nat) n fun (i x : Nat) => PI (f i))]]
      [] (AV.ag [AI b, AV.own (0 : Nat)])
      [((0 : Nat), Ob.row Mode.u true (1 : Nat) n (fun (i x : Nat) => PI (intOf (PI (f i)))) [])]
      (VC.call (12 : Nat)
        [AV.ag
            [AV.p true (PV.v (Value.int IntKind.i64 b)),
              AV.p false (PV.sl true (1 : Nat) n fun (i x : Nat) => PI (intOf (PI (f i))))]]
        [] (AB (ledgerValid b n fun (i : Nat) => intOf (PI (intOf (PI (f i)))))) []
        (VC.split (!ledgerValid b n fun (i : Nat) => intOf (PI (intOf (PI (f i)))))
          (VC.done
            {
              env :=
                [((0 : Nat),
                    AV.ag
                      [AV.p true (PV.v (Value.int IntKind.i64 b)),
                        AV.p false (PV.sl nn (1 : Nat) n fun (i x : Nat) => PI (f i))]),
                  ((1 : Nat), AV.p true (PV.v (Value.int IntKind.i64 c))), ((2 : Nat), AV.adr (2 : Nat) (0 : Nat)),
                  ((4 : Nat), AV.adr (4 : Nat) (0 : Nat)), ((5 : Nat), AV.p true (PV.v (Value.bool false))),
                  ((12 : Nat),
                    AV.p true (PV.v (Value.bool !ledgerValid b n fun (i : Nat) => intOf (PI (intOf (PI (f i)))))))],
              H :=
                [((2 : Nat), Ob.box [AV.p true (PV.v (Value.int IntKind.i64 b)), AV.own (1009 : Nat)]),
                  ((4 : Nat),
                    Ob.box
                      [AV.p true (PV.v (Value.int IntKind.i64 (0 : Int))),
                        AV.p true (PV.v (Value.slice none (0 : Nat) (0 : Nat)))]),
                  ((1009 : Nat), Ob.row Mode.u true (1 : Nat) n (fun (i x : Nat) => PI (intOf (PI (f i)))) [])] })
          (VC.need
            ((((0 : Nat) + n) * (8 : Nat) ≤ (140737488355328 : Nat) ∧
                (↑((0 : Nat) + n) : Int) ≤ (9223372036854775807 : Int)) ∧
              allV (1 : Nat) n fun (i x : Nat) => PI (intOf (PI (f i))))
            (VC.need
              ((((0 : Nat) + n) * (8 : Nat) ≤ (140737488355328 : Nat) ∧
                  (↑((0 : Nat) + n) : Int) ≤ (9223372036854775807 : Int)) ∧
                allV (1 : Nat) n fun (i x : Nat) => PI (intOf (PI (f i))))
              (VC.need
                ((((0 : Nat) + n + (1 : Nat)) * (8 : Nat) ≤ (140737488355328 : Nat) ∧
                    (↑((0 : Nat) + n + (1 : Nat)) : Int) ≤ (9223372036854775807 : Int)) ∧
                  allV (1 : Nat) (1 : Nat)
                    (setG [((0 : Nat), (0 : Nat), PV.v (Value.int IntKind.i64 c))] fun (x j : Nat) =>
                      PV.v ([Value.int IntKind.i64 (0 : Int)].getD j undef)))
                (VC.call (12 : Nat)
                  [AV.ag
                      [AV.p true (PV.v (Value.int IntKind.i64 b)),
                        AV.p false
                          (PV.sl true (1 : Nat) ((0 : Nat) + n + (1 : Nat)) fun (a b_1 : Nat) =>
                            if a < (0 : Nat) + n then
                              if a < (0 : Nat) then
                                setG [] (fun (x j : Nat) => PV.v ([Value.int IntKind.i64 (0 : Int)].getD j undef)) a b_1
                              else PI (intOf (PI (f (a - (0 : Nat)))))
                            else
                              setG [((0 : Nat), (0 : Nat), PV.v (Value.int IntKind.i64 c))]
                                (fun (x j : Nat) => PV.v ([Value.int IntKind.i64 (0 : Int)].getD j undef))
                                (a - ((0 : Nat) + n)) b_1)]]
                  []
                  (AB
                    (ledgerValid b ((0 : Nat) + n + (1 : Nat)) fun (i : Nat) =>
                      intOf
                        (if i < (0 : Nat) + n then
                          if i < (0 : Nat) then
                            setG [] (fun (x j : Nat) => PV.v ([Value.int IntKind.i64 (0 : Int)].getD j undef)) i
                              (0 : Nat)
                          else PI (intOf (PI (f (i - (0 : Nat)))))
                        else
                          setG [((0 : Nat), (0 : Nat), PV.v (Value.int IntKind.i64 c))]
                            (fun (x j : Nat) => PV.v ([Value.int IntKind.i64 (0 : Int)].getD j undef))
                            (i - ((0 : Nat) + n)) (0 : Nat))))
                  []
                  (VC.split
                    (!ledgerValid b ((0 : Nat) + n + (1 : Nat)) fun (i : Nat) =>
                        intOf
                          (if i < (0 : Nat) + n then
                            if i < (0 : Nat) then
                              setG [] (fun (x j : Nat) => PV.v ([Value.int IntKind.i64 (0 : Int)].getD j undef)) i
                                (0 : Nat)
                            else PI (intOf (PI (f (i - (0 : Nat)))))
                          else
                            setG [((0 : Nat), (0 : Nat), PV.v (Value.int IntKind.i64 c))]
                              (fun (x j : Nat) => PV.v ([Value.int IntKind.i64 (0 : Int)].getD j undef))
                              (i - ((0 : Nat) + n)) (0 : Nat)))
                    (VC.done
                      {
                        env :=
                          [((0 : Nat),
                              AV.ag
                                [AV.p true (PV.v (Value.int IntKind.i64 b)),
                                  AV.p false (PV.sl nn (1 : Nat) n fun (i x : Nat) => PI (f i))]),
                            ((1 : Nat), AV.p true (PV.v (Value.int IntKind.i64 c))),
                            ((2 : Nat), AV.adr (2 : Nat) (0 : Nat)), ((4 : Nat), AV.adr (4 : Nat) (0 : Nat)),
                            ((5 : Nat), AV.p true (PV.v (Value.bool false))),
                            ((12 : Nat),
                              AV.p true
                                (PV.v (Value.bool !ledgerValid b n fun (i : Nat) => intOf (PI (intOf (PI (f i))))))),
                            ((6 : Nat), AV.adr (6 : Nat) (0 : Nat)), ((7 : Nat), AV.adr (7 : Nat) (0 : Nat)),
                            ((33 : Nat),
                              AV.p true
                                (PV.v
                                  (Value.bool
                                    !ledgerValid b ((0 : Nat) + n + (1 : Nat)) fun (i : Nat) =>
                                        intOf
                                          (if i < (0 : Nat) + n then
                                            if i < (0 : Nat) then
                                              setG []
                                                (fun (x j : Nat) =>
                                                  PV.v ([Value.int IntKind.i64 (0 : Int)].getD j undef))
                                                i (0 : Nat)
                                            else PI (intOf (PI (f (i - (0 : Nat)))))
                                          else
                                            setG [((0 : Nat), (0 : Nat), PV.v (Value.int IntKind.i64 c))]
                                              (fun (x j : Nat) => PV.v ([Value.int IntKind.i64 (0 : Int)].getD j undef))
                                              (i - ((0 : Nat) + n)) (0 : Nat)))))],
                        H :=
                          [((2 : Nat), Ob.box [AV.p true (PV.v (Value.int IntKind.i64 b)), AV.own (1009 : Nat)]),
                            ((4 : Nat), Ob.box [AV.p true (PV.v (Value.int IntKind.i64 b)), AV.own (19 : Nat)]),
                            ((1009 : Nat),
                              Ob.row Mode.u true (1 : Nat) n (fun (i x : Nat) => PI (intOf (PI (f i)))) []),
                            ((19 : Nat),
                              Ob.row Mode.u true (1 : Nat) ((0 : Nat) + n)
                                (fun (a b_1 : Nat) =>
                                  if a < (0 : Nat) then
                                    setG [] (fun (x j : Nat) => PV.v ([Value.int IntKind.i64 (0 : Int)].getD j undef)) a
                                      b_1
                                  else PI (intOf (PI (f (a - (0 : Nat))))))
                                []),
                            ((6 : Nat), Ob.box [AV.p true (PV.v (Value.int IntKind.i64 b)), AV.own (19 : Nat)]),
                            ((29 : Nat),
                              Ob.row Mode.u true (1 : Nat) ((0 : Nat) + n + (1 : Nat))
                                (fun (a b_1 : Nat) =>
                                  if a < (0 : Nat) + n then
                                    if a < (0 : Nat) then
                                      setG [] (fun (x j : Nat) => PV.v ([Value.int IntKind.i64 (0 : Int)].getD j undef))
                                        a b_1
                                    else PI (intOf (PI (f (a - (0 : Nat)))))
                                  else
                                    setG [((0 : Nat), (0 : Nat), PV.v (Value.int IntKind.i64 c))]
                                      (fun (x j : Nat) => PV.v ([Value.int IntKind.i64 (0 : Int)].getD j undef))
                                      (a - ((0 : Nat) + n)) b_1)
                                []),
                            ((7 : Nat), Ob.box [AV.p true (PV.v (Value.int IntKind.i64 b)), AV.own (29 : Nat)])] })
                    (VC.done
                      {
                        env :=
                          [((0 : Nat),
                              AV.ag
                                [AV.p true (PV.v (Value.int IntKind.i64 b)),
                                  AV.p false (PV.sl nn (1 : Nat) n fun (i x : Nat) => PI (f i))]),
                            ((1 : Nat), AV.p true (PV.v (Value.int IntKind.i64 c))),
                            ((2 : Nat), AV.adr (2 : Nat) (0 : Nat)), ((4 : Nat), AV.adr (4 : Nat) (0 : Nat)),
                            ((5 : Nat), AV.p true (PV.v (Value.bool true))),
                            ((12 : Nat),
                              AV.p true
                                (PV.v (Value.bool !ledgerValid b n fun (i : Nat) => intOf (PI (intOf (PI (f i))))))),
                            ((6 : Nat), AV.adr (6 : Nat) (0 : Nat)), ((7 : Nat), AV.adr (7 : Nat) (0 : Nat)),
                            ((33 : Nat),
                              AV.p true
                                (PV.v
                                  (Value.bool
                                    !ledgerValid b ((0 : Nat) + n + (1 : Nat)) fun (i : Nat) =>
                                        intOf
                                          (if i < (0 : Nat) + n then
                                            if i < (0 : Nat) then
                                              setG []
                                                (fun (x j : Nat) =>
                                                  PV.v ([Value.int IntKind.i64 (0 : Int)].getD j undef))
                                                i (0 : Nat)
                                            else PI (intOf (PI (f (i - (0 : Nat)))))
                                          else
                                            setG [((0 : Nat), (0 : Nat), PV.v (Value.int IntKind.i64 c))]
                                              (fun (x j : Nat) => PV.v ([Value.int IntKind.i64 (0 : Int)].getD j undef))
                                              (i - ((0 : Nat) + n)) (0 : Nat)))))],
                        H :=
                          [((2 : Nat), Ob.box [AV.p true (PV.v (Value.int IntKind.i64 b)), AV.own (1009 : Nat)]),
                            ((4 : Nat), Ob.box [AV.p true (PV.v (Value.int IntKind.i64 b)), AV.own (29 : Nat)]),
                            ((1009 : Nat),
                              Ob.row Mode.u true (1 : Nat) n (fun (i x : Nat) => PI (intOf (PI (f i)))) []),
                            ((19 : Nat),
                              Ob.row Mode.u true (1 : Nat) ((0 : Nat) + n)
                                (fun (a b_1 : Nat) =>
                                  if a < (0 : Nat) then
                                    setG [] (fun (x j : Nat) => PV.v ([Value.int IntKind.i64 (0 : Int)].getD j undef)) a
                                      b_1
                                  else PI (intOf (PI (f (a - (0 : Nat))))))
                                []),
                            ((6 : Nat), Ob.box [AV.p true (PV.v (Value.int IntKind.i64 b)), AV.own (19 : Nat)]),
                            ((29 : Nat),
                              Ob.row Mode.u true (1 : Nat) ((0 : Nat) + n + (1 : Nat))
                                (fun (a b_1 : Nat) =>
                                  if a < (0 : Nat) + n then
                                    if a < (0 : Nat) then
                                      setG [] (fun (x j : Nat) => PV.v ([Value.int IntKind.i64 (0 : Int)].getD j undef))
                                        a b_1
                                    else PI (intOf (PI (f (a - (0 : Nat)))))
                                  else
                                    setG [((0 : Nat), (0 : Nat), PV.v (Value.int IntKind.i64 c))]
                                      (fun (x j : Nat) => PV.v ([Value.int IntKind.i64 (0 : Int)].getD j undef))
                                      (a - ((0 : Nat) + n)) b_1)
                                []),
                            ((7 : Nat),
                              Ob.box [AV.p true (PV.v (Value.int IntKind.i64 b)), AV.own (29 : Nat)])] })))))))) := by
  intros; kernel_rfl
theorem spend_cell {n : Nat} {f : Nat → Int} {c : Int} {z : Nat → Nat → PV} {y : Nat → PV} (i : Nat) (hi : i < n + 1) :
    intOf (if i < 0 + n then if i < 0 then y i else PI (f (i - 0)) else setG [(0, 0, PV.v (Value.int IntKind.i64 c))] z (i - (0 + n)) 0) = snoc f n c i := by
  by_cases h1 : i < n
  · simp [snoc, h1, intOf]
  · have : i - n = 0 := by omega
    simp [snoc, h1, this, setG, cellSet, intOf]
theorem c_spSC0 (b : Int) (nn : Bool) (n : Nat) (f : Nat → Int) (c : Int) (hn : n ≤ 1048576) : PObj Try.prog G0 28 [.ag [AI b, IL nn n f], AI c] [] (spendR b n f c) (spendH b n f c) := by
  refine PObj.by chk28 rfl (ev_spSC b nn n f c) ?_
  simp only [VC.holds_split, VC.holds_need, VC.holds_doneP, VC.holds_done, VC.holds_either, VC.holds_call, VC.holds_callE, VC.holds_lend, VC.holds_stop, VC.holds_fail, decide_eq_true_eq, decide_eq_false_iff_not]
  refine ⟨c_own _ _ _ _ (int_cells _ _) hn, c_spLV _ _ _ _ (int_cells _ _) (by omega), fun h => ?_, fun h => ⟨⟨by omega, allV_ints _ _⟩, ⟨by omega, allV_ints _ _⟩, ⟨by omega, ?_⟩, c_spLV _ _ _ _ ?_ (by omega), fun h2 => ?_, fun h2 => ?_⟩⟩
  · have hv := lv_split h rfl (fun i hi => (rfl : _ = f i))
    have e1 : spendB b n f = 0 := by simp [spendB, hv]
    have e2 : spendOk b n f c = false := by simp [spendOk, hv]
    have e3 : spendN b n f c = 0 := by simp [spendN, hv]
    simp only [spendR, spendH, e1, e2, e3]
    refine ResOk.mk [] [] [0] _ _ ?_ ⟨rfl, rfl⟩
    simp [doneC, resOf, resAV, tup, pinR, St.lowers, St.lower, stLe, leEnv, leObs, obLe, injB, pinC, AV.leC, AV.leCs, PV.leC, PV.Le_v, St.get, St.obj, look, rho, isNew, keptC, renH, Mode.ok, Mode.isZ, PV.isVal, PV.isNilSl, List.all_nil, List.all_cons, List.any_nil, List.any_cons, List.map_nil, List.map_cons, res28]
  · intro i j hi hj
    obtain rfl : i = 0 := by omega
    obtain rfl : j = 0 := by omega
    rfl
  · intro i j hi hj
    obtain rfl : j = 0 := by omega
    by_cases h1 : i < n
    · simp [h1, intOf]
    · have : i - n = 0 := by omega
      simp [h1, this, setG, cellSet, intOf]
  · have hv := lv_split h rfl (fun i hi => (rfl : _ = f i))
    have hv2 := lv_split (n := n + 1) (G := snoc f n c) h2 (by omega) (fun i hi => spend_cell (y := fun i => setG [] (fun (x j : Nat) => PV.v ([Value.int IntKind.i64 (0 : Int)].getD j undef)) i 0) i hi)
    have e1 : spendB b n f = b := by simp [spendB, hv]
    have e2 : spendOk b n f c = false := by simp [spendOk, hv2]
    have e3 : spendN b n f c = n := by simp [spendN, hv, hv2]
    simp only [spendR, spendH, e1, e2, e3]
    refine ResOk.mk [] [(0, 19)] [] _ _ ?_ ⟨rfl, rfl⟩
    simp [doneC, resOf, resAV, tup, pinR, St.lowers, St.lower, stLe, leEnv, leObs, obLe, injB, pinC, AV.leC, AV.leCs, PV.leC, PV.Le_v, St.get, St.obj, look, rho, isNew, keptC, renH, Mode.ok, Mode.isZ, PV.isVal, PV.isNilSl, List.all_nil, List.all_cons, List.any_nil, List.any_cons, List.map_nil, List.map_cons, res28]
    intro i hi
    simp [snoc, hi, intOf]
  · have hv := lv_split h rfl (fun i hi => (rfl : _ = f i))
    have hv2 := lv_split (n := n + 1) (G := snoc f n c) h2 (by omega) (fun i hi => spend_cell (y := fun i => setG [] (fun (x j : Nat) => PV.v ([Value.int IntKind.i64 (0 : Int)].getD j undef)) i 0) i hi)
    have e1 : spendB b n f = b := by simp [spendB, hv]
    have e2 : spendOk b n f c = true := by simp [spendOk, hv, hv2]
    have e3 : spendN b n f c = n + 1 := by simp [spendN, hv, hv2]
    simp only [spendR, spendH, e1, e2, e3]
    refine ResOk.mk [] [(0, 29)] [] _ _ ?_ ⟨rfl, rfl⟩
    simp [doneC, resOf, resAV, tup, pinR, St.lowers, St.lower, stLe, leEnv, leObs, obLe, injB, pinC, AV.leC, AV.leCs, PV.leC, PV.Le_v, St.get, St.obj, look, rho, isNew, keptC, renH, Mode.ok, Mode.isZ, PV.isVal, PV.isNilSl, List.all_nil, List.all_cons, List.any_nil, List.any_cons, List.map_nil, List.map_cons, res28]
    intro i hi
    by_cases h1 : i < n
    · simp [snoc, h1, intOf]; exact .refl _
    · have : i - n = 0 := by omega
      simp [snoc, h1, this, setG, cellSet]; exact .refl _
def in_imSC (b : Int) (nn : Bool) (n : Nat) (f : Nat → Int) (c : Int) := (G0, res29, ([] : List (Nat × Ob)), [Item.ir ir29], start [.ag [AI b, IL nn n f], AI c] [])
theorem ev_imSC : ∀ (b : Int) (nn : Bool) (n : Nat) (f : Nat → Int) (c : Int),
  ev G0 res29 [] (3000 : Nat)
      (Or.call [] (AB (ledgerValid b n fun (i : Nat) => intOf (PI (f i)))) []
        (Or.nil.split
          (Or.call []
            (AB
              (ledgerValid b (n + (1 : Nat)) fun (i : Nat) =>
                intOf
                  (if i < n then PI (f i)
                  else
                    setG [((0 : Nat), (0 : Nat), PV.v (Value.int IntKind.i64 c))]
                      (fun (x j : Nat) => PV.v ([Value.int IntKind.i64 (0 : Int)].getD j undef)) (i - n) (0 : Nat))))
            [] (Or.nil.split Or.nil))))
      [Item.ir ir29] (start [AV.ag [AI b, IL nn n f], AI c] []) =
    VC.call (14 : Nat)
      [AV.ag
          [AV.p true (PV.v (Value.int IntKind.i64 b)), AV.p false (PV.sl nn (1 : Nat) n fun (i x : Nat) => PI (f i))]]
      [] (AB (ledgerValid b n fun (i : Nat) => intOf (PI (f i)))) []
      (VC.split (!ledgerValid b n fun (i : Nat) => intOf (PI (f i)))
        (VC.done
          {
            env :=
              [((0 : Nat),
                  AV.ag
                    [AV.p true (PV.v (Value.int IntKind.i64 b)),
                      AV.p false (PV.sl nn (1 : Nat) n fun (i x : Nat) => PI (f i))]),
                ((1 : Nat), AV.p true (PV.v (Value.int IntKind.i64 c))), ((2 : Nat), AV.adr (2 : Nat) (0 : Nat)),
                ((4 : Nat), AV.adr (4 : Nat) (0 : Nat)), ((5 : Nat), AV.p true (PV.v (Value.bool false))),
                ((9 : Nat), AV.p true (PV.v (Value.bool !ledgerValid b n fun (i : Nat) => intOf (PI (f i)))))],
            H :=
              [((2 : Nat),
                  Ob.box
                    [AV.p true (PV.v (Value.int IntKind.i64 b)),
                      AV.p false (PV.sl nn (1 : Nat) n fun (i x : Nat) => PI (f i))]),
                ((4 : Nat),
                  Ob.box
                    [AV.p true (PV.v (Value.int IntKind.i64 (0 : Int))),
                      AV.p true (PV.v (Value.slice none (0 : Nat) (0 : Nat)))])] })
        (VC.need
          ((n * (8 : Nat) ≤ (140737488355328 : Nat) ∧ (↑n : Int) ≤ (9223372036854775807 : Int)) ∧
            allV (1 : Nat) n fun (i x : Nat) => PI (f i))
          (VC.need
            (((n + (1 : Nat)) * (8 : Nat) ≤ (140737488355328 : Nat) ∧
                (↑(n + (1 : Nat)) : Int) ≤ (9223372036854775807 : Int)) ∧
              allV (1 : Nat) (1 : Nat)
                (setG [((0 : Nat), (0 : Nat), PV.v (Value.int IntKind.i64 c))] fun (x j : Nat) =>
                  PV.v ([Value.int IntKind.i64 (0 : Int)].getD j undef)))
            (VC.call (14 : Nat)
              [AV.ag
                  [AV.p true (PV.v (Value.int IntKind.i64 b)),
                    AV.p false
                      (PV.sl false (1 : Nat) (n + (1 : Nat)) fun (a b_1 : Nat) =>
                        if a < n then PI (f a)
                        else
                          setG [((0 : Nat), (0 : Nat), PV.v (Value.int IntKind.i64 c))]
                            (fun (x j : Nat) => PV.v ([Value.int IntKind.i64 (0 : Int)].getD j undef)) (a - n) b_1)]]
              []
              (AB
                (ledgerValid b (n + (1 : Nat)) fun (i : Nat) =>
                  intOf
                    (if i < n then PI (f i)
                    else
                      setG [((0 : Nat), (0 : Nat), PV.v (Value.int IntKind.i64 c))]
                        (fun (x j : Nat) => PV.v ([Value.int IntKind.i64 (0 : Int)].getD j undef)) (i - n) (0 : Nat))))
              []
              (VC.split
                (!ledgerValid b (n + (1 : Nat)) fun (i : Nat) =>
                    intOf
                      (if i < n then PI (f i)
                      else
                        setG [((0 : Nat), (0 : Nat), PV.v (Value.int IntKind.i64 c))]
                          (fun (x j : Nat) => PV.v ([Value.int IntKind.i64 (0 : Int)].getD j undef)) (i - n) (0 : Nat)))
                (VC.need
                  ((n * (8 : Nat) ≤ (140737488355328 : Nat) ∧ (↑n : Int) ≤ (9223372036854775807 : Int)) ∧
                    allV (1 : Nat) n fun (i x : Nat) => PI (f i))
                  (VC.done
                    {
                      env :=
                        [((0 : Nat),
                            AV.ag
                              [AV.p true (PV.v (Value.int IntKind.i64 b)),
                                AV.p false (PV.sl nn (1 : Nat) n fun (i x : Nat) => PI (f i))]),
                          ((1 : Nat), AV.p true (PV.v (Value.int IntKind.i64 c))),
                          ((2 : Nat), AV.adr (2 : Nat) (0 : Nat)), ((4 : Nat), AV.adr (4 : Nat) (0 : Nat)),
                          ((5 : Nat), AV.p true (PV.v (Value.bool false))),
                          ((9 : Nat), AV.p true (PV.v (Value.bool !ledgerValid b n fun (i : Nat) => intOf (PI (f i))))),
                          ((6 : Nat), AV.adr (6 : Nat) (0 : Nat)),
                          ((22 : Nat),
                            AV.p true
                              (PV.v
                                (Value.bool
                                  !ledgerValid b (n + (1 : Nat)) fun (i : Nat) =>
                                      intOf
                                        (if i < n then PI (f i)
                                        else
                                          setG [((0 : Nat), (0 : Nat), PV.v (Value.int IntKind.i64 c))]
                                            (fun (x j : Nat) => PV.v ([Value.int IntKind.i64 (0 : Int)].getD j undef))
                                            (i - n) (0 : Nat)))))],
                      H :=
                        [((2 : Nat),
                            Ob.box
                              [AV.p true (PV.v (Value.int IntKind.i64 b)),
                                AV.p false (PV.sl nn (1 : Nat) n fun (i x : Nat) => PI (f i))]),
                          ((4 : Nat), Ob.box [AV.p true (PV.v (Value.int IntKind.i64 b)), AV.own (27 : Nat)]),
                          ((18 : Nat),
                            Ob.row Mode.u false (1 : Nat) (n + (1 : Nat))
                              (fun (a b_1 : Nat) =>
                                if a < n then PI (f a)
                                else
                                  setG [((0 : Nat), (0 : Nat), PV.v (Value.int IntKind.i64 c))]
                                    (fun (x j : Nat) => PV.v ([Value.int IntKind.i64 (0 : Int)].getD j undef)) (a - n)
                                    b_1)
                              []),
                          ((6 : Nat), Ob.box [AV.p true (PV.v (Value.int IntKind.i64 b)), AV.own (18 : Nat)]),
                          ((27 : Nat), Ob.row Mode.u false (1 : Nat) n (fun (i x : Nat) => PI (f i)) [])] }))
                (VC.done
                  {
                    env :=
                      [((0 : Nat),
                          AV.ag
                            [AV.p true (PV.v (Value.int IntKind.i64 b)),
                              AV.p false (PV.sl nn (1 : Nat) n fun (i x : Nat) => PI (f i))]),
                        ((1 : Nat), AV.p true (PV.v (Value.int IntKind.i64 c))),
                        ((2 : Nat), AV.adr (2 : Nat) (0 : Nat)), ((4 : Nat), AV.adr (4 : Nat) (0 : Nat)),
                        ((5 : Nat), AV.p true (PV.v (Value.bool true))),
                        ((9 : Nat), AV.p true (PV.v (Value.bool !ledgerValid b n fun (i : Nat) => intOf (PI (f i))))),
                        ((6 : Nat), AV.adr (6 : Nat) (0 : Nat)),
                        ((22 : Nat),
                          AV.p true
                            (PV.v
                              (Value.bool
                                !ledgerValid b (n + (1 : Nat)) fun (i : Nat) =>
                                    intOf
                                      (if i < n then PI (f i)
                                      else
                                        setG [((0 : Nat), (0 : Nat), PV.v (Value.int IntKind.i64 c))]
                                          (fun (x j : Nat) => PV.v ([Value.int IntKind.i64 (0 : Int)].getD j undef))
                                          (i - n) (0 : Nat)))))],
                    H :=
                      [((2 : Nat),
                          Ob.box
                            [AV.p true (PV.v (Value.int IntKind.i64 b)),
                              AV.p false (PV.sl nn (1 : Nat) n fun (i x : Nat) => PI (f i))]),
                        ((4 : Nat), Ob.box [AV.p true (PV.v (Value.int IntKind.i64 b)), AV.own (18 : Nat)]),
                        ((18 : Nat),
                          Ob.row Mode.u false (1 : Nat) (n + (1 : Nat))
                            (fun (a b_1 : Nat) =>
                              if a < n then PI (f a)
                              else
                                setG [((0 : Nat), (0 : Nat), PV.v (Value.int IntKind.i64 c))]
                                  (fun (x j : Nat) => PV.v ([Value.int IntKind.i64 (0 : Int)].getD j undef)) (a - n)
                                  b_1)
                            []),
                        ((6 : Nat), Ob.box [AV.p true (PV.v (Value.int IntKind.i64 b)), AV.own (18 : Nat)])] })))))) := by
  intros; kernel_rfl
theorem spend_cell' {n : Nat} {f : Nat → Int} {c : Int} {z : Nat → Nat → PV} (i : Nat) (hi : i < n + 1) :
    intOf (if i < n then PI (f i) else setG [(0, 0, PV.v (Value.int IntKind.i64 c))] z (i - n) 0) = snoc f n c i := by
  by_cases h1 : i < n
  · simp [snoc, h1, intOf]
  · have : i - n = 0 := by omega
    simp [snoc, h1, this, setG, cellSet, intOf]
theorem c_imSC0 (b : Int) (nn : Bool) (n : Nat) (f : Nat → Int) (c : Int) (hn : n ≤ 1048576) : PObj Try.prog G0 29 [.ag [AI b, IL nn n f], AI c] [] (spendR b n f c) (spendH b n f c) := by
  refine PObj.by chk29 rfl (ev_imSC b nn n f c) ?_
  simp only [VC.holds_split, VC.holds_need, VC.holds_doneP, VC.holds_done, VC.holds_either, VC.holds_call, VC.holds_callE, VC.holds_lend, VC.holds_stop, VC.holds_fail, decide_eq_true_eq, decide_eq_false_iff_not]
  refine ⟨c_imLV _ _ _ _ (int_cells _ _) (by omega), fun h => ?_, fun h => ⟨⟨by omega, allV_ints _ _⟩, ⟨by omega, ?_⟩, c_imLV _ _ _ _ ?_ (by omega), fun h2 => ⟨⟨by omega, allV_ints _ _⟩, ?_⟩, fun h2 => ?_⟩⟩
  · have hv := lv_split h rfl (fun i hi => (rfl : _ = f i))
    have e1 : spendB b n f = 0 := by simp [spendB, hv]
    have e2 : spendOk b n f c = false := by simp [spendOk, hv]
    have e3 : spendN b n f c = 0 := by simp [spendN, hv]
    simp only [spendR, spendH, e1, e2, e3]
    refine ResOk.mk [] [] [0] _ _ ?_ ⟨rfl, rfl⟩
    simp [doneC, resOf, resAV, tup, pinR, St.lowers, St.lower, stLe, leEnv, leObs, obLe, injB, pinC, AV.leC, AV.leCs, PV.leC, PV.Le_v, St.get, St.obj, look, rho, isNew, keptC, renH, Mode.ok, Mode.isZ, PV.isVal, PV.isNilSl, List.all_nil, List.all_cons, List.any_nil, List.any_cons, List.map_nil, List.map_cons, res29]
  · intro i j hi hj
    obtain rfl : i = 0 := by omega
    obtain rfl : j = 0 := by omega
    rfl
  · intro i j hi hj
    obtain rfl : j = 0 := by omega
    by_cases h1 : i < n
    · simp [h1, intOf]
    · have : i - n = 0 := by omega
      simp [h1, this, setG, cellSet, intOf]
  · have hv := lv_split h rfl (fun i hi => (rfl : _ = f i))
    have hv2 := lv_split (n := n + 1) (G := snoc f n c) h2 (by omega) (fun i hi => spend_cell' i hi)
    have e1 : spendB b n f = b := by simp [spendB, hv]
    have e2 : spendOk b n f c = false := by simp [spendOk, hv2]
    have e3 : spendN b n f c = n := by simp [spendN, hv, hv2]
    simp only [spendR, spendH, e1, e2, e3]
    refine ResOk.mk [] [(0, 27)] [] _ _ ?_ ⟨rfl, rfl⟩
    simp [doneC, resOf, resAV, tup, pinR, St.lowers, St.lower, stLe, leEnv, leObs, obLe, injB, pinC, AV.leC, AV.leCs, PV.leC, PV.Le_v, St.get, St.obj, look, rho, isNew, keptC, renH, Mode.ok, Mode.isZ, PV.isVal, PV.isNilSl, List.all_nil, List.all_cons, List.any_nil, List.any_cons, List.map_nil, List.map_cons, res29]
    intro i hi
    simp [snoc, hi]
  · have hv := lv_split h rfl (fun i hi => (rfl : _ = f i))
    have hv2 := lv_split (n := n + 1) (G := snoc f n c) h2 (by omega) (fun i hi => spend_cell' i hi)
    have e1 : spendB b n f = b := by simp [spendB, hv]
    have e2 : spendOk b n f c = true := by simp [spendOk, hv, hv2]
    have e3 : spendN b n f c = n + 1 := by simp [spendN, hv, hv2]
    simp only [spendR, spendH, e1, e2, e3]
    refine ResOk.mk [] [(0, 18)] [] _ _ ?_ ⟨rfl, rfl⟩
    simp [doneC, resOf, resAV, tup, pinR, St.lowers, St.lower, stLe, leEnv, leObs, obLe, injB, pinC, AV.leC, AV.leCs, PV.leC, PV.Le_v, St.get, St.obj, look, rho, isNew, keptC, renH, Mode.ok, Mode.isZ, PV.isVal, PV.isNilSl, List.all_nil, List.all_cons, List.any_nil, List.any_cons, List.map_nil, List.map_cons, res29]
    intro i hi
    by_cases h1 : i < n
    · simp [snoc, h1]; exact .refl _
    · have : i - n = 0 := by omega
      simp [snoc, h1, this, setG, cellSet]; exact .refl _
theorem spend_congr {b : Int} {n : Nat} {f g : Nat → Int} {c : Int} (h : ∀ i, i < n → f i = g i) : spendB b n f = spendB b n g ∧ spendOk b n f c = spendOk b n g c ∧ spendN b n f c = spendN b n g c := by
  have h1 := ledgerValid_congr (b := b) h
  have h2 : ledgerValid b (n + 1) (snoc f n c) = ledgerValid b (n + 1) (snoc g n c) := ledgerValid_congr fun i hi => by
    by_cases hh : i < n
    · simp [snoc, hh, h i hh]
    · simp [snoc, hh]
  simp [spendB, spendOk, spendN, h1, h2]
theorem LG_le2 {b c : Int} {nn : Bool} {n : Nat} {g : Nat → Nat → PV} (hg : IntCells 1 n g) : AV.lePs [LG b nn n g, AI c] [.ag [AI b, IL nn n fun i => intOf (g i 0)], AI c] := ⟨⟨AV.leP_p _ _, AV.leP_ints hg, trivial⟩, AV.leP_p _ _, trivial⟩
theorem c_spSC (b : Int) (nn : Bool) (n : Nat) (g : Nat → Nat → PV) (c : Int) (hg : IntCells 1 n g) (hn : n ≤ 1048576) : PObj Try.prog G0 28 [LG b nn n g, AI c] [] (spendR b n (fun i => intOf (g i 0)) c) (spendH b n (fun i => intOf (g i 0)) c) :=
  (c_spSC0 b nn n _ c hn).args (LG_le2 hg) trivial
theorem c_imSC (b : Int) (nn : Bool) (n : Nat) (g : Nat → Nat → PV) (c : Int) (hg : IntCells 1 n g) (hn : n ≤ 1048576) : PObj Try.prog G0 29 [LG b nn n g, AI c] [] (spendR b n (fun i => intOf (g i 0)) c) (spendH b n (fun i => intOf (g i 0)) c) :=
  (c_imSC0 b nn n _ c hn).args (LG_le2 hg) trivial

/-! ### The law -/
theorem leaves_int : leaves Try.prog 12 3 = some [.int .i64] := by kernel_rfl
theorem args_int {ts : List TypeId} {xs : List AV} (h : Args Try.prog (3 :: ts) xs) : ∃ c cs, Args Try.prog ts cs ∧ xs = .p false (PI c) :: cs := by
  cases h with
  | cons t ts ls l cs hl hlen hfit h =>
    rw [leaves_int] at hl
    cases hl
    match l, hlen with
    | [c0], _ =>
      obtain ⟨b, rfl, _⟩ := fit_int (hfit 0 _ rfl)
      refine ⟨b, cs, h, ?_⟩
      unfold argOf
      rw [Try.underlying3]
      rfl
def in_lawSC (b : Int) (nn : Bool) (n : Nat) (f : Nat → Int) (c : Int) := (G0, res8, ([] : List (Nat × Ob)), [Item.ir ir8], start [.ag [AI b, IL nn n f], AI c] [])
theorem ev_lawSC : ∀ (b : Int) (nn : Bool) (n : Nat) (f : Nat → Int) (c : Int),
  ev G0 res8 [] (3000 : Nat)
      (Or.call [] (AI (szN n (1048576 : Int))) []
        (Or.nil.split
          (Or.call [] (AV.ag [AI b, AV.own (0 : Nat)])
            [((0 : Nat), Ob.row Mode.u true (1 : Nat) n (fun (i x : Nat) => PI (intOf (PI (f i)))) [])]
            (Or.call [] (spendR b n (fun (i : Nat) => intOf (PI (intOf (PI (f i))))) c)
              (spendH b n (fun (i : Nat) => intOf (PI (intOf (PI (f i))))) c)
              (Or.call [] (AV.ag [AI b, AV.own (0 : Nat)])
                [((0 : Nat), Ob.row Mode.u true (1 : Nat) n (fun (i x : Nat) => PI (intOf (PI (f i)))) [])]
                (Or.call [] (spendR b n (fun (i : Nat) => intOf (PI (intOf (PI (f i))))) c)
                  (spendH b n (fun (i : Nat) => intOf (PI (intOf (PI (f i))))) c)
                  (Or.call [] (AB true) []
                    (Or.nil.split
                              (Or.call [] (AV.ag [AI b, AV.own (0 : Nat)])
                                [((0 : Nat),
                                    Ob.row Mode.u true (1 : Nat) n (fun (i x : Nat) => PI (intOf (PI (f i)))) [])]
                                (Or.call [] (AB true) []
                                  (Or.call [(1029 : Nat)] (AI ((1 : Int) + (↑n : Int)))
                                      [((0 : Nat),
                                          Ob.row Mode.u true (1 : Nat) n
                                            (fun (i x : Nat) => PI ((1 : Int) + (↑i : Int))) [])]
                                      (Or.call [] (AB true) []
                                              (Or.no.split
                                                            (Or.call [(1033 : Nat)]
                                                              (AI
                                                                ((1 : Int) +
                                                                  (↑(spendN b n
                                                                        (fun (i : Nat) => intOf (PI (intOf (PI (f i)))))
                                                                        c) :
                                                                    Int)))
                                                              [((0 : Nat),
                                                                  Ob.row Mode.u false (1 : Nat)
                                                                    (spendN b n
                                                                      (fun (i : Nat) => intOf (PI (intOf (PI (f i)))))
                                                                      c)
                                                                    (fun (i x : Nat) => PI ((1 : Int) + (↑i : Int)))
                                                                    [])]
                                                              (Or.call []
                                                                (AI
                                                                  ((1 : Int) +
                                                                    (↑(spendN b n
                                                                          (fun (i : Nat) =>
                                                                            intOf (PI (intOf (PI (f i)))))
                                                                          c) :
                                                                      Int)))
                                                                []
                                                                (Or.nil.split
                                                                    (Or.call [] (AV.ag [AI b, AV.own (0 : Nat)])
                                                                      [((0 : Nat),
                                                                          Ob.row Mode.u true (1 : Nat) n
                                                                            (fun (i x : Nat) => PI (intOf (PI (f i))))
                                                                            [])]
                                                                      (Or.call []
                                                                        (spendR b n
                                                                          (fun (i : Nat) =>
                                                                            intOf (PI (intOf (PI (f i)))))
                                                                          c)
                                                                        (spendH b n
                                                                          (fun (i : Nat) =>
                                                                            intOf (PI (intOf (PI (f i)))))
                                                                          c)
                                                                        (Or.call [] (AB true) []
                                                                          (Or.no.split
                                                                                    (Or.call []
                                                                                      (AI
                                                                                        ((1 : Int) +
                                                                                          (↑(spendN b n
                                                                                                (fun (i : Nat) =>
                                                                                                  intOf
                                                                                                    (PI
                                                                                                      (intOf
                                                                                                        (PI (f i)))))
                                                                                                c) :
                                                                                            Int)))
                                                                                      []
                                                                                      (Or.no.split
                                                                                          Or.nil).lit)).lit.lit.lit.lit)))).lit))).lit.lit.lit.lit.lit.lit).lit.lit.lit).lit))).lit.lit.lit.lit)))))))
      [Item.ir ir8] (start [AV.ag [AI b, IL nn n f], AI c] []) =
    VC.call (11 : Nat)
      [AV.ag
          [AV.p true (PV.v (Value.int IntKind.i64 b)), AV.p false (PV.sl nn (1 : Nat) n fun (i x : Nat) => PI (f i))],
        AV.p true (PV.v (Value.int IntKind.i64 (1048576 : Int)))]
      [] (AI (szN n (1048576 : Int))) []
      (VC.split (decide (szN n (1048576 : Int) < (0 : Int))) (VC.doneP (AV.p true (PV.v (Value.bool true))))
        (VC.call (13 : Nat)
          [AV.ag
              [AV.p true (PV.v (Value.int IntKind.i64 b)),
                AV.p false (PV.sl nn (1 : Nat) n fun (i x : Nat) => PI (f i))]]
          [] (AV.ag [AI b, AV.own (0 : Nat)])
          [((0 : Nat), Ob.row Mode.u true (1 : Nat) n (fun (i x : Nat) => PI (intOf (PI (f i)))) [])]
          (VC.call (28 : Nat)
            [AV.ag
                [AV.p true (PV.v (Value.int IntKind.i64 b)),
                  AV.p false (PV.sl true (1 : Nat) n fun (i x : Nat) => PI (intOf (PI (f i))))],
              AV.p true (PV.v (Value.int IntKind.i64 c))]
            [] (spendR b n (fun (i : Nat) => intOf (PI (intOf (PI (f i))))) c)
            (spendH b n (fun (i : Nat) => intOf (PI (intOf (PI (f i))))) c)
            (VC.call (13 : Nat)
              [AV.ag
                  [AV.p true (PV.v (Value.int IntKind.i64 b)),
                    AV.p false (PV.sl nn (1 : Nat) n fun (i x : Nat) => PI (f i))]]
              [] (AV.ag [AI b, AV.own (0 : Nat)])
              [((0 : Nat), Ob.row Mode.u true (1 : Nat) n (fun (i x : Nat) => PI (intOf (PI (f i)))) [])]
              (VC.call (29 : Nat)
                [AV.ag
                    [AV.p true (PV.v (Value.int IntKind.i64 b)),
                      AV.p false (PV.sl true (1 : Nat) n fun (i x : Nat) => PI (intOf (PI (f i))))],
                  AV.p true (PV.v (Value.int IntKind.i64 c))]
                [] (spendR b n (fun (i : Nat) => intOf (PI (intOf (PI (f i))))) c)
                (spendH b n (fun (i : Nat) => intOf (PI (intOf (PI (f i))))) c)
                (VC.call (15 : Nat)
                  [AV.ag
                      [AV.p true
                          (PV.v (Value.int IntKind.i64 (spendB b n fun (i : Nat) => intOf (PI (intOf (PI (f i))))))),
                        AV.p false
                          (PV.sl false (1 : Nat) (spendN b n (fun (i : Nat) => intOf (PI (intOf (PI (f i))))) c)
                            fun (i x : Nat) => PI (snoc (fun (i_1 : Nat) => intOf (PI (intOf (PI (f i_1))))) n c i))],
                    AV.ag
                      [AV.p true
                          (PV.v (Value.int IntKind.i64 (spendB b n fun (i : Nat) => intOf (PI (intOf (PI (f i))))))),
                        AV.p false
                          (PV.sl false (1 : Nat) (spendN b n (fun (i : Nat) => intOf (PI (intOf (PI (f i))))) c)
                            fun (i x : Nat) => PI (snoc (fun (i_1 : Nat) => intOf (PI (intOf (PI (f i_1))))) n c i))]]
                  [] (AB true) []
                  (VC.split
                    (!spendOk b n (fun (i : Nat) => intOf (PI (intOf (PI (f i))))) c ==
                        spendOk b n (fun (i : Nat) => intOf (PI (intOf (PI (f i))))) c)
                    (VC.doneP (AV.p true (PV.v (Value.bool false))))
                    (VC.call (13 : Nat)
                      [AV.ag
                          [AV.p true (PV.v (Value.int IntKind.i64 b)),
                            AV.p false (PV.sl nn (1 : Nat) n fun (i x : Nat) => PI (f i))]]
                      [] (AV.ag [AI b, AV.own (0 : Nat)])
                      [((0 : Nat), Ob.row Mode.u true (1 : Nat) n (fun (i x : Nat) => PI (intOf (PI (f i)))) [])]
                      (VC.call (15 : Nat)
                        [AV.ag
                            [AV.p true (PV.v (Value.int IntKind.i64 b)),
                              AV.p false (PV.sl true (1 : Nat) n fun (i x : Nat) => PI (intOf (PI (f i))))],
                          AV.ag
                            [AV.p true (PV.v (Value.int IntKind.i64 b)),
                              AV.p false (PV.sl true (1 : Nat) n fun (i x : Nat) => PI (intOf (PI (f i))))]]
                        [] (AB true) []
                        (VC.call (30 : Nat)
                          [AV.ag [AV.p true (PV.v (Value.int IntKind.i64 b)), AV.own (0 : Nat)],
                            AV.p true (PV.v (Value.int IntKind.i64 (1 : Int)))]
                          [((0 : Nat), Ob.row Mode.u true (1 : Nat) n (fun (i x : Nat) => PI (intOf (PI (f i)))) [])]
                          (AI ((1 : Int) + (↑n : Int)))
                          [((0 : Nat),
                              Ob.row Mode.u true (1 : Nat) n (fun (i x : Nat) => PI ((1 : Int) + (↑i : Int))) [])]
                          (VC.call (15 : Nat)
                            [AV.ag
                                [AV.p true
                                    (PV.v
                                      (Value.int IntKind.i64
                                        (spendB b n fun (i : Nat) => intOf (PI (intOf (PI (f i))))))),
                                  AV.p false
                                    (PV.sl false (1 : Nat)
                                      (spendN b n (fun (i : Nat) => intOf (PI (intOf (PI (f i))))) c) fun (i x : Nat) =>
                                      PI (snoc (fun (i_1 : Nat) => intOf (PI (intOf (PI (f i_1))))) n c i))],
                              AV.ag
                                [AV.p true
                                    (PV.v
                                      (Value.int IntKind.i64
                                        (spendB b n fun (i : Nat) => intOf (PI (intOf (PI (f i))))))),
                                  AV.p false
                                    (PV.sl false (1 : Nat)
                                      (spendN b n (fun (i : Nat) => intOf (PI (intOf (PI (f i))))) c) fun (i x : Nat) =>
                                      PI (snoc (fun (i_1 : Nat) => intOf (PI (intOf (PI (f i_1))))) n c i))]]
                            [] (AB true) []
                            (VC.split
                              (!spendOk b n (fun (i : Nat) => intOf (PI (intOf (PI (f i))))) c ==
                                  spendOk b n (fun (i : Nat) => intOf (PI (intOf (PI (f i))))) c)
                              VC.fail
                              (VC.call (30 : Nat)
                                [AV.ag
                                    [AV.p true
                                        (PV.v
                                          (Value.int IntKind.i64
                                            (spendB b n fun (i : Nat) => intOf (PI (intOf (PI (f i))))))),
                                      AV.own (0 : Nat)],
                                  AV.p true (PV.v (Value.int IntKind.i64 (1 : Int)))]
                                [((0 : Nat),
                                    Ob.row Mode.u false (1 : Nat)
                                      (spendN b n (fun (i : Nat) => intOf (PI (intOf (PI (f i))))) c)
                                      (fun (i x : Nat) =>
                                        PI (snoc (fun (i_1 : Nat) => intOf (PI (intOf (PI (f i_1))))) n c i))
                                      [])]
                                (AI
                                  ((1 : Int) +
                                    (↑(spendN b n (fun (i : Nat) => intOf (PI (intOf (PI (f i))))) c) : Int)))
                                [((0 : Nat),
                                    Ob.row Mode.u false (1 : Nat)
                                      (spendN b n (fun (i : Nat) => intOf (PI (intOf (PI (f i))))) c)
                                      (fun (i x : Nat) => PI ((1 : Int) + (↑i : Int))) [])]
                                (VC.call (31 : Nat)
                                  [AV.ag
                                      [AV.p true
                                          (PV.v
                                            (Value.int IntKind.i64
                                              (spendB b n fun (i : Nat) => intOf (PI (intOf (PI (f i))))))),
                                        AV.p false
                                          (PV.sl false (1 : Nat)
                                            (spendN b n (fun (i : Nat) => intOf (PI (intOf (PI (f i))))) c)
                                            fun (i x : Nat) => PI ((1 : Int) + (↑i : Int)))],
                                    AV.p true (PV.v (Value.int IntKind.i64 (1 : Int)))]
                                  []
                                  (AI
                                    ((1 : Int) +
                                      (↑(spendN b n (fun (i : Nat) => intOf (PI (intOf (PI (f i))))) c) : Int)))
                                  []
                                  (VC.split
                                    ((1 : Int) +
                                        (↑(spendN b n (fun (i : Nat) => intOf (PI (intOf (PI (f i))))) c) : Int) !=
                                      (1 : Int) +
                                        (↑(spendN b n (fun (i : Nat) => intOf (PI (intOf (PI (f i))))) c) : Int))
                                    (VC.doneP (AV.p true (PV.v (Value.bool false))))
                                    (VC.call (13 : Nat)
                                      [AV.ag
                                          [AV.p true (PV.v (Value.int IntKind.i64 b)),
                                            AV.p false (PV.sl nn (1 : Nat) n fun (i x : Nat) => PI (f i))]]
                                      [] (AV.ag [AI b, AV.own (0 : Nat)])
                                      [((0 : Nat),
                                          Ob.row Mode.u true (1 : Nat) n (fun (i x : Nat) => PI (intOf (PI (f i)))) [])]
                                      (VC.call (29 : Nat)
                                        [AV.ag
                                            [AV.p true (PV.v (Value.int IntKind.i64 b)),
                                              AV.p false
                                                (PV.sl true (1 : Nat) n fun (i x : Nat) => PI (intOf (PI (f i))))],
                                          AV.p true (PV.v (Value.int IntKind.i64 c))]
                                        [] (spendR b n (fun (i : Nat) => intOf (PI (intOf (PI (f i))))) c)
                                        (spendH b n (fun (i : Nat) => intOf (PI (intOf (PI (f i))))) c)
                                        (VC.call (15 : Nat)
                                          [AV.ag
                                              [AV.p true
                                                  (PV.v
                                                    (Value.int IntKind.i64
                                                      (spendB b n fun (i : Nat) => intOf (PI (intOf (PI (f i))))))),
                                                AV.p false
                                                  (PV.sl false (1 : Nat)
                                                    (spendN b n (fun (i : Nat) => intOf (PI (intOf (PI (f i))))) c)
                                                    fun (i x : Nat) =>
                                                    PI
                                                      (snoc (fun (i_1 : Nat) => intOf (PI (intOf (PI (f i_1))))) n c
                                                        i))],
                                            AV.ag
                                              [AV.p true
                                                  (PV.v
                                                    (Value.int IntKind.i64
                                                      (spendB b n fun (i : Nat) => intOf (PI (intOf (PI (f i))))))),
                                                AV.p false
                                                  (PV.sl false (1 : Nat)
                                                    (spendN b n (fun (i : Nat) => intOf (PI (intOf (PI (f i))))) c)
                                                    fun (i x : Nat) =>
                                                    PI
                                                      (snoc (fun (i_1 : Nat) => intOf (PI (intOf (PI (f i_1))))) n c
                                                        i))]]
                                          [] (AB true) []
                                          (VC.split
                                            (!spendOk b n (fun (i : Nat) => intOf (PI (intOf (PI (f i))))) c ==
                                                spendOk b n (fun (i : Nat) => intOf (PI (intOf (PI (f i))))) c)
                                            VC.fail
                                            (VC.call (31 : Nat)
                                              [AV.ag
                                                  [AV.p true
                                                      (PV.v
                                                        (Value.int IntKind.i64
                                                          (spendB b n fun (i : Nat) => intOf (PI (intOf (PI (f i))))))),
                                                    AV.p false
                                                      (PV.sl false (1 : Nat)
                                                        (spendN b n (fun (i : Nat) => intOf (PI (intOf (PI (f i))))) c)
                                                        fun (i x : Nat) => PI ((1 : Int) + (↑i : Int)))],
                                                AV.p true (PV.v (Value.int IntKind.i64 (1 : Int)))]
                                              []
                                              (AI
                                                ((1 : Int) +
                                                  (↑(spendN b n (fun (i : Nat) => intOf (PI (intOf (PI (f i))))) c) :
                                                    Int)))
                                              []
                                              (VC.split
                                                ((1 : Int) +
                                                    (↑(spendN b n (fun (i : Nat) => intOf (PI (intOf (PI (f i))))) c) :
                                                      Int) !=
                                                  (1 : Int) +
                                                    (↑(spendN b n (fun (i : Nat) => intOf (PI (intOf (PI (f i))))) c) :
                                                      Int))
                                                VC.fail
                                                (VC.doneP (AV.p true (PV.v (Value.bool true))))))))))))))))))))))))) := by
  intros; kernel_rfl
theorem spendN_le (b : Int) (n : Nat) (f : Nat → Int) (c : Int) : spendN b n f c ≤ n + 1 := by
  unfold spendN; split
  · split <;> omega
  · omega
theorem c_lawSC (b : Int) (nn : Bool) (n : Nat) (f : Nat → Int) (c : Int) (hn : n ≤ maxLen) : PRet Try.prog G0 8 [.ag [AI b, IL nn n f], AI c] (AB true) := by
  refine PRet.by chk8 (ev_lawSC b nn n f c) ?_
  simp only [VC.holds_split, VC.holds_need, VC.holds_doneP, VC.holds_done, VC.holds_either, VC.holds_call, VC.holds_callE, VC.holds_lend, VC.holds_stop, VC.holds_fail, decide_eq_true_eq, decide_eq_false_iff_not]
  refine ⟨c_szLedger _ _ _ _ _, fun h => by simp, fun h => ?_⟩
  have hn' : n ≤ 1048576 := by have := szN_ok hn (by omega) (by omega) h; omega
  have hi := int_cells f n
  have hi' := int_cells (fun i => intOf (PI (f i))) n
  have hN := spendN_le b n (fun i => intOf (PI (intOf (PI (f i))))) c
  have hs := int_cells (snoc (fun i => intOf (PI (intOf (PI (f i))))) n c) (spendN b n (fun i => intOf (PI (intOf (PI (f i))))) c)
  have to := c_toLedger b nn n (fun i _ => PI (f i)) hi hn'
  have sp := c_spSC b true n (fun i _ => PI (intOf (PI (f i)))) c hi' hn'
  have im := c_imSC b true n (fun i _ => PI (intOf (PI (f i)))) c hi' hn'
  have eqs := c_eqLedger (spendB b n (fun i => intOf (PI (intOf (PI (f i)))))) false false (spendN b n (fun i => intOf (PI (intOf (PI (f i))))) c) _ (fun i _ => PI (snoc (fun i => intOf (PI (intOf (PI (f i))))) n c i)) hs (fun i hi => rfl) (by omega)
  refine ⟨to, sp, to, im, eqs, fun h2 => by simp at h2, fun h2 => ⟨to, c_eqLedger _ _ _ _ _ _ hi' (fun i hi => rfl) (by omega), c_markL _ _ _ _ _ (by omega) (by omega) (by omega), eqs, fun h3 => by simp at h3, fun h3 => ⟨c_markL _ _ _ _ _ (by omega) (by omega) (by omega),
    c_heldL _ _ _ _ _ (fun i hi => rfl) (by omega) (by omega) (by omega), fun h4 => by simp at h4, fun h4 => ⟨to, im, eqs, fun h5 => by simp at h5, fun h5 => ⟨c_heldL _ _ _ _ _ (fun i hi => rfl) (by omega) (by omega) (by omega), fun h6 => by simp at h6, ?_⟩⟩⟩⟩⟩
  simp
theorem law_FnExactSpendCost (xs : List AV) (h : Args Try.prog Try.f8.params.toList xs) : PRet Try.prog [] 8 xs (AB true) := by
  have hp : Try.f8.params.toList = [24, 3] := by kernel_rfl
  rw [hp] at h
  obtain ⟨b, nn, n, g, cs, hn, hg, h2, rfl⟩ := args_ledger h
  obtain ⟨c, cs', h3, rfl⟩ := args_int h2
  cases h3
  exact (c_lawSC b nn n _ c hn).args ⟨⟨⟨fun _ => .inr ⟨rfl, rfl⟩, PV.leC_rfl _⟩, AV.leP_ints hg, trivial⟩, ⟨fun _ => .inr ⟨rfl, rfl⟩, PV.leC_rfl _⟩, trivial⟩
end Go.Gw
