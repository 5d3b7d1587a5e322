/- Tables: measured, copied, compared, written over, read again; with no condition. -/
import Derived.Test.YtigaelckdbeecaaDoorTabV
import Derived.KernelRfl
namespace Go.Gw
open Go Go.Proofs
set_option linter.unusedSimpArgs false
set_option linter.unusedVariables false
set_option maxRecDepth 100000
def ir36 : Ir :=
  (.seq
  (.reg [] [o 2 (.mov (.const (.slice none 0 0)))])
  (.seq
  (.seq
  (.reg [3] [o 3 (.mov (tt 0)),
    o 4 (.isNil false (tt 3))])
  (.cond (tt 4)
   (.seq
   (.reg [] [o 2 (.mov (.const (.slice none 0 0)))])
   .ret)
   .skip))
  (.seq
  (.reg [5, 6, 7] [o 5 (.mkSl 1 0 [(.int .i64 0)] []),
    o 6 (.mov (tt 0)),
    o 7 (.app 1 8 true (tt 5) (tt 6)),
    o 2 (.mov (tt 7))])
  .ret)))
def keep36 : List Nat := [0, 2, 4]
def res36 : List RI := [.tmp 2]
theorem chk36 : chk Tryd.prog 36 1 keep36 = some (ir36, res36) := by kernel_rfl

abbrev taR : AV := .ag [.own 0, .own 1]
abbrev taH (n : Nat) (f : Nat → ByteArray) (m : Nat) (w : Nat → Nat) (h : Nat → Nat → Int) : List (Nat × Ob) := [(0, .row .u false 1 n (TR f) []), (1, .row .u false 1 m (RR w h) [])]
theorem allV_TR {n : Nat} {f : Nat → ByteArray} : allV 1 n (TR f) := fun _ _ _ _ => rfl
/-! ### copies -/
theorem ev_clI : ∀ (n : Nat) (f : Nat → Int), ev G0 res36 [] (3000 : Nat) (Or.nil.lit.split Or.nil.lit) [Item.ir ir36] (start [IL false n f] []) = VC.either (n = (0 : Nat)) (VC.done (St.mk [((0 : Nat), AV.p false (PV.sl false (1 : Nat) n fun (i x : Nat) => PI (f i))), ((2 : Nat), AV.p true (PV.v (Value.slice none (0 : Nat) (0 : Nat)))), ((4 : Nat), AV.p true (PV.v (Value.bool true)))] [])) (VC.need ((((0 : Nat) + n) * (8 : Nat) ≤ (140737488355328 : Nat) ∧ (↑((0 : Nat) + n) : Int) ≤ (9223372036854775807 : Int)) ∧ allV (1 : Nat) n fun (i x : Nat) => PI (f i)) (VC.done (St.mk [((0 : Nat), AV.p false (PV.sl false (1 : Nat) n fun (i x : Nat) => PI (f i))), ((2 : Nat), AV.own (7 : Nat)), ((4 : Nat), AV.p true (PV.v (Value.bool false)))] [((7 : Nat), Ob.row Mode.u true (1 : Nat) ((0 : Nat) + n) (fun (a b : Nat) => if a < (0 : Nat) then setG [] (fun (x j : Nat) => PV.v ([Value.int IntKind.i64 (0 : Int)].getD j undef)) a b else PI (f (a - (0 : Nat)))) [])]))) := by intros; kernel_rfl
end Go.Gw

namespace Go.Gw
open Go Go.Proofs
set_option linter.unusedSimpArgs false
set_option linter.unusedVariables false
set_option maxRecDepth 100000
def ir35 : Ir :=
  (.seq
  (.reg [] [o 2 (.mov (.const (.slice none 0 0)))])
  (.seq
  (.reg [3, 4] [o 3 (.mov (tt 0)),
    o 4 (.app 1 16 true (.const (.slice none 0 0)) (tt 3)),
    o 2 (.mov (tt 4))])
  .ret))
def keep35 : List Nat := [0, 2]
def res35 : List RI := [.tmp 2]
theorem chk35 : chk Tryd.prog 35 1 keep35 = some (ir35, res35) := by kernel_rfl
def ir72 : Ir :=
  (.seq
  (.reg [] [o 2 (.mov (.const (.slice none 0 0)))])
  (.seq
  (.reg [3, 4, 5] [o 3 (.mkSl 1 0 [(.int .i64 0)] []),
    o 4 (.mov (tt 0)),
    o 5 (.app 1 8 true (tt 3) (tt 4)),
    o 2 (.mov (tt 5))])
  .ret))
def keep72 : List Nat := [0, 2]
def res72 : List RI := [.tmp 2]
theorem chk72 : chk Tryd.prog 72 1 keep72 = some (ir72, res72) := by kernel_rfl
def ir62_L1 : Ir :=
  (.seq
  (.reg [] [o 9 (.bin .lss (tt 8) (tt 7))])
  (.seq
  (.cond (tt 9)
   .skip
   (.exit 0))
  (.seq
  (.block 1
   (.seq
   (.reg [10, 11] [o 10 (.idx 1 (tt 6) (tt 8)),
     o 11 (.load false 1 (tt 10)),
     o 5 (.mov (tt 11))])
   (.reg [12, 13, 14, 15, 16] [o 12 (.mov (tt 3)),
     o 13 (.mov (tt 5)),
     o 14 (.call 36 [(tt 13)]),
     o 15 (.mkSl 1 1 [(.slice none 0 0)] [(0, (tt 14))]),
     o 16 (.app 1 24 false (tt 12) (tt 15)),
     o 3 (.mov (tt 16))])))
  (.reg [17] [o 17 (.bin .add (tt 8) (ci 1)),
    o 8 (.mov (tt 17))]))))
def ir62_T2 : Ir :=
  (.seq
  (.reg [18] [o 18 (.mov (tt 3)),
    o 2 (.mov (tt 18))])
  .ret)
def ir62 : Ir :=
  (.seq
  (.reg [] [o 2 (.mov (.const (.slice none 0 0)))])
  (.seq
  (.reg [] [o 3 (.mov (.const (.slice none 0 0)))])
  (.seq
  (.seq
  (.reg [] [o 6 (.mov (tt 0)),
    o 7 (.len (tt 6)),
    o 8 (.mov (ci 0))])
  (.block 0
   (.loop ir62_L1)))
  ir62_T2)))
def keep62 : List Nat := [0, 2, 3, 5, 6, 7, 8, 9]
def res62 : List RI := [.tmp 2]
theorem chk62 : chk Tryd.prog 62 1 keep62 = some (ir62, res62) := by kernel_rfl
def ir38 : Ir :=
  (.seq
  (.reg [] [o 1 (.box 2 (tt 0)),
    o 2 (.alloc [(.slice none 0 0), (.slice none 0 0)])])
  (.seq
  (.dreg [3, 4, 5, 6, 7, 8, 9] [0, 1, 3, 0, 8, 31, 63, 127] [(1, 1004), (2, 1005), (2, 2005), (2, 3005), (2, 4005), (2, 5005), (2, 6005), (2, 7005), (2, 8005), (4, 1007), (5, 1008), (5, 2008), (5, 3008), (5, 4008), (5, 5008), (5, 6008), (5, 7008), (5, 8008)] [o 3 (.fadr 0 (tt 1)),
    o 4 (.load false 1 (tt 3)),
    o 5 (.call 35 [(tt 4)]),
    o 6 (.fadr 1 (tt 1)),
    o 7 (.load false 1 (tt 6)),
    o 8 (.call 62 [(tt 7)]),
    o 9 (.build [(.slice none 0 0), (.slice none 0 0)] [(0, 1, (tt 5)), (1, 1, (tt 8))]),
    on (.store 2 (tt 2) (tt 9))])
  .ret))
def keep38 : List Nat := [0, 1, 2]
def res38 : List RI := [.cell true 2 2]
theorem chk38 : chk Tryd.prog 38 1 keep38 = some (ir38, res38) := by kernel_rfl

theorem c_clI (n : Nat) (f : Nat → Int) (hn : n ≤ 1048576) : PObj Tryd.prog G0 36 [IL false n f] [] (.own 0) [(0, .row .u false 1 n (fun i _ => PI (f i)) [])] := by
  refine PObj.by chk36 rfl (ev_clI n f) ?_
  simp only [VC.holds_split, VC.holds_need, VC.holds_doneP, VC.holds_done, VC.holds_either, VC.holds_call, VC.holds_callE, VC.holds_lend, VC.holds_stop, VC.holds_fail, decide_eq_true_eq, decide_eq_false_iff_not]
  refine ⟨fun h0 => ?_, ⟨by omega, fun _ _ _ _ => rfl⟩, ?_⟩
  · refine ResOk.mk [] [] [0] _ _ ?_ ⟨rfl, rfl⟩
    subst h0
    simp [doneC, resOf, resAV, tup, pinR, PV.Le_self, hbs, St.lowers, St.lower, stLe, leEnv, leObs, obLe, injB, pinC, AV.leC, AV.leCs, PV.leC, PV.Le_v, St.get, St.obj, look, rho, isNew, keptC, renH, Mode.ok, Mode.isZ, PV.isVal, PV.isNilSl, List.all_nil, List.all_cons, List.any_nil, List.any_cons, List.map_nil, List.map_cons, res36]
  · refine ResOk.mk [] [(0, 7)] [] _ _ ?_ ⟨rfl, rfl⟩
    simp [doneC, resOf, resAV, tup, pinR, PV.Le_self, hbs, St.lowers, St.lower, stLe, leEnv, leObs, obLe, injB, pinC, AV.leC, AV.leCs, PV.leC, PV.Le_v, St.get, St.obj, look, rho, isNew, keptC, renH, Mode.ok, Mode.isZ, PV.isVal, PV.isNilSl, List.all_nil, List.all_cons, List.any_nil, List.any_cons, List.map_nil, List.map_cons, res36]
theorem ev_clT : ∀ (n : Nat) (f : Nat → ByteArray), ev G0 res35 [] (3000 : Nat) Or.nil [Item.ir ir35] (start [TL false n f] []) = VC.need ((n * (16 : Nat) ≤ (140737488355328 : Nat) ∧ (↑n : Int) ≤ (9223372036854775807 : Int)) ∧ allV (1 : Nat) n fun (i x : Nat) => PT (f i)) (VC.done (St.mk [((0 : Nat), AV.p false (PV.sl false (1 : Nat) n fun (i x : Nat) => PT (f i))), ((2 : Nat), AV.own (4 : Nat))] [((4 : Nat), Ob.row Mode.u false (1 : Nat) n (fun (i x : Nat) => PT (f i)) [])])) := by intros; kernel_rfl
theorem c_clT (n : Nat) (f : Nat → ByteArray) (hn : n ≤ 1048576) : PObj Tryd.prog G0 35 [TL false n f] [] (.own 0) [(0, .row .u false 1 n (TR f) [])] := by
  refine PObj.by chk35 rfl (ev_clT n f) ?_
  simp only [VC.holds_split, VC.holds_need, VC.holds_doneP, VC.holds_done, VC.holds_either, VC.holds_call, VC.holds_callE, VC.holds_lend, VC.holds_stop, VC.holds_fail, decide_eq_true_eq, decide_eq_false_iff_not]
  refine ⟨⟨by omega, fun _ _ _ _ => rfl⟩, ?_⟩
  refine ResOk.mk [] [(0, 4)] [] _ _ ?_ ⟨rfl, rfl⟩
  simp [doneC, resOf, resAV, tup, pinR, PV.Le_self, hbs, St.lowers, St.lower, stLe, leEnv, leObs, obLe, injB, pinC, AV.leC, AV.leCs, PV.leC, PV.Le_v, St.get, St.obj, look, rho, isNew, keptC, renH, Mode.ok, Mode.isZ, PV.isVal, PV.isNilSl, List.all_nil, List.all_cons, List.any_nil, List.any_cons, List.map_nil, List.map_cons, res35]
theorem ev_cpI : ∀ (n : Nat) (f : Nat → Int), ev G0 res72 [] (3000 : Nat) Or.nil [Item.ir ir72] (start [IL false n f] []) = VC.need ((((0 : Nat) + n) * (8 : Nat) ≤ (140737488355328 : Nat) ∧ (↑((0 : Nat) + n) : Int) ≤ (9223372036854775807 : Int)) ∧ allV (1 : Nat) n fun (i x : Nat) => PI (f i)) (VC.done (St.mk [((0 : Nat), AV.p false (PV.sl false (1 : Nat) n fun (i x : Nat) => PI (f i))), ((2 : Nat), AV.own (5 : Nat))] [((5 : Nat), Ob.row Mode.u true (1 : Nat) ((0 : Nat) + n) (fun (a b : Nat) => if a < (0 : Nat) then setG [] (fun (x j : Nat) => PV.v ([Value.int IntKind.i64 (0 : Int)].getD j undef)) a b else PI (f (a - (0 : Nat)))) [])])) := by intros; kernel_rfl
theorem c_cpI (n : Nat) (f : Nat → Int) (hn : n ≤ 1048576) : PObj Tryd.prog G0 72 [IL false n f] [] (.own 0) [(0, .row .u false 1 n (fun i _ => PI (f i)) [])] := by
  refine PObj.by chk72 rfl (ev_cpI n f) ?_
  simp only [VC.holds_split, VC.holds_need, VC.holds_doneP, VC.holds_done, VC.holds_either, VC.holds_call, VC.holds_callE, VC.holds_lend, VC.holds_stop, VC.holds_fail, decide_eq_true_eq, decide_eq_false_iff_not]
  refine ⟨⟨by omega, fun _ _ _ _ => rfl⟩, ?_⟩
  refine ResOk.mk [] [(0, 5)] [] _ _ ?_ ⟨rfl, rfl⟩
  simp [doneC, resOf, resAV, tup, pinR, PV.Le_self, hbs, St.lowers, St.lower, stLe, leEnv, leObs, obLe, injB, pinC, AV.leC, AV.leCs, PV.leC, PV.Le_v, St.get, St.obj, look, rho, isNew, keptC, renH, Mode.ok, Mode.isZ, PV.isVal, PV.isNilSl, List.all_nil, List.all_cons, List.any_nil, List.any_cons, List.map_nil, List.map_cons, res72]
theorem ev_clR : ∀ (nn : Bool) (m : Nat) (w : Nat → Nat) (h : Nat → Nat → Int), ev G0 res62 [] (3000 : Nat) Or.nil [Item.ir ir62] (start [RL nn m w h] []) = VC.loop ir62_L1 [Item.bend (0 : Nat), Item.ir ir62_T2] (St.mk [((0 : Nat), AV.p false (PV.sl nn (1 : Nat) m (RR w h))), ((2 : Nat), AV.p true (PV.v (Value.slice none (0 : Nat) (0 : Nat)))), ((3 : Nat), AV.p true (PV.v (Value.slice none (0 : Nat) (0 : Nat)))), ((6 : Nat), AV.p false (PV.sl nn (1 : Nat) m (RR w h))), ((7 : Nat), AV.p true (PV.v (Value.int IntKind.i64 (↑m : Int)))), ((8 : Nat), AV.p true (PV.v (Value.int IntKind.i64 (0 : Int))))] []) := by intros; kernel_rfl
def st_clR (nn : Bool) (m : Nat) (w : Nat → Nat) (h : Nat → Nat → Int) (k : Nat) : St := ⟨[(0, RL nn m w h), (3, .own 7), (6, RL nn m w h), (7, AI m), (8, AI k)], [(7, .row .u false 1 k (RR w h) [])]⟩
theorem evr_clR : ∀ (nn : Bool) (m : Nat) (w : Nat → Nat) (h : Nat → Nat → Int) (I : Nat → St → Prop) (k : Nat), ev G0 res62 [] (3000 : Nat) ((Or.call [] (AV.own (0 : Nat)) [((0 : Nat), Ob.row Mode.u false (1 : Nat) (w (↑k : Int).toNat) (fun (i x : Nat) => PI (h (↑k : Int).toNat i)) [])] Or.nil).split Or.nil) [Item.ir ir62_L1, Item.lend (I k), Item.bend (0 : Nat), Item.ir ir62_T2] (st_clR nn m w h k) = VC.split (decide ((↑k : Int) < (↑m : Int))) (VC.need ((0 : Int) ≤ (↑k : Int) ∧ (↑k : Int).toNat < m) (VC.call (36 : Nat) [AV.p false (PV.sl false (1 : Nat) (w (↑k : Int).toNat) fun (j x : Nat) => PI (h (↑k : Int).toNat j))] [] (AV.own (0 : Nat)) [((0 : Nat), Ob.row Mode.u false (1 : Nat) (w (↑k : Int).toNat) (fun (i x : Nat) => PI (h (↑k : Int).toNat i)) [])] (VC.need (((k + (1 : Nat)) * (24 : Nat) ≤ (140737488355328 : Nat) ∧ (↑(k + (1 : Nat)) : Int) ≤ (9223372036854775807 : Int)) ∧ allOne (1 : Nat) (1 : Nat) (setG [((0 : Nat), (0 : Nat), PV.sl false (1 : Nat) (w (↑k : Int).toNat) fun (i x : Nat) => PI (h (↑k : Int).toNat i))] fun (x j : Nat) => PV.v ([Value.slice none (0 : Nat) (0 : Nat)].getD j undef))) (VC.lend (I k) (St.mk [((0 : Nat), AV.p false (PV.sl nn (1 : Nat) m (RR w h))), ((3 : Nat), AV.own (16 : Nat)), ((6 : Nat), AV.p false (PV.sl nn (1 : Nat) m (RR w h))), ((7 : Nat), AV.p true (PV.v (Value.int IntKind.i64 (↑m : Int)))), ((8 : Nat), AV.p true (PV.v (Value.int IntKind.i64 (IntKind.i64.wrap ((↑k : Int) + (1 : Int)))))), ((9 : Nat), AV.p true (PV.v (Value.bool (decide ((↑k : Int) < (↑m : Int)))))), ((5 : Nat), AV.p false (PV.sl false (1 : Nat) (w (↑k : Int).toNat) fun (j x : Nat) => PI (h (↑k : Int).toNat j)))] [((16 : Nat), Ob.row Mode.u false (1 : Nat) (k + (1 : Nat)) (fun (a b : Nat) => if a < k then RR w h a b else setG [((0 : Nat), (0 : Nat), PV.sl false (1 : Nat) (w (↑k : Int).toNat) fun (i x : Nat) => PI (h (↑k : Int).toNat i))] (fun (x j : Nat) => PV.v ([Value.slice none (0 : Nat) (0 : Nat)].getD j undef)) (a - k) b) [])]))))) (VC.done (St.mk [((0 : Nat), AV.p false (PV.sl nn (1 : Nat) m (RR w h))), ((3 : Nat), AV.own (7 : Nat)), ((6 : Nat), AV.p false (PV.sl nn (1 : Nat) m (RR w h))), ((7 : Nat), AV.p true (PV.v (Value.int IntKind.i64 (↑m : Int)))), ((8 : Nat), AV.p true (PV.v (Value.int IntKind.i64 (↑k : Int)))), ((9 : Nat), AV.p true (PV.v (Value.bool (decide ((↑k : Int) < (↑m : Int)))))), ((2 : Nat), AV.own (7 : Nat))] [((7 : Nat), Ob.row Mode.u false (1 : Nat) k (RR w h) [])])) := by intros; kernel_rfl
theorem c_clR (nn : Bool) (m : Nat) (w : Nat → Nat) (h : Nat → Nat → Int) (hm : m ≤ 1048576) (hw : ∀ i, i < m → w i ≤ 1048576) : PObj Tryd.prog G0 62 [RL nn m w h] [] (.own 0) [(0, .row .u false 1 m (RR w h) [])] := by
  refine PObj.by chk62 rfl (ev_clR nn m w h) ?_
  refine loop_by (st_clR nn m w h) (fun k => k ≤ m) (fun k => m - k) 0 [] [] [7] (by omega) ?_ (evr_clR nn m w h) fun k hk => ?_
  · simp [st_clR, hbs, St.lowers, St.lower, stLe, leEnv, leObs, obLe, injB, pinC, AV.leC, AV.leCs, PV.leC, PV.Le_v, St.get, St.obj, look, rho, isNew, keptC, renH, Mode.ok, Mode.isZ, PV.isVal, PV.isNilSl, List.all_nil, List.all_cons, List.any_nil, List.any_cons, List.map_nil, List.map_cons, PV.Le_self]
  · simp only [VC.holds_split, VC.holds_need, VC.holds_doneP, VC.holds_done, VC.holds_either, VC.holds_call, VC.holds_callE, VC.holds_lend, VC.holds_stop, VC.holds_fail, decide_eq_true_eq, decide_eq_false_iff_not, Int.toNat_natCast]
    refine ⟨fun h0 => ⟨by omega, c_clI _ _ (hw k (by omega)), ⟨by omega, ?_⟩, Again.mk (k + 1) [] [(7, 16)] [] (by omega) (by omega) ?_⟩, fun h0 => ?_⟩
    · intro i j hi hj
      obtain rfl : i = 0 := by omega
      obtain rfl : j = 0 := by omega
      rfl
    · have : IntKind.i64.wrap ((k : Int) + 1) = ((k + 1 : Nat) : Int) := wrap_in (by omega) (by omega)
      simp [st_clR, hbs, St.lowers, St.lower, stLe, leEnv, leObs, obLe, injB, pinC, AV.leC, AV.leCs, PV.leC, PV.Le_v, St.get, St.obj, look, rho, isNew, keptC, renH, Mode.ok, Mode.isZ, PV.isVal, PV.isNilSl, List.all_nil, List.all_cons, List.any_nil, List.any_cons, List.map_nil, List.map_cons, PV.Le_self, this]
      intro i hi
      by_cases h1 : i < k
      · simp [h1]; exact RR_le rfl (fun _ _ => rfl)
      · obtain rfl : i = k := by omega
        simp [setG, cellSet]
        exact RR_le rfl (fun _ _ => rfl)
    · have : k = m := by omega
      subst this
      refine ResOk.mk [] [(0, 7)] [] _ _ ?_ ⟨rfl, rfl⟩
      simp [doneC, resOf, resAV, tup, pinR, PV.Le_self, hbs, St.lowers, St.lower, stLe, leEnv, leObs, obLe, injB, pinC, AV.leC, AV.leCs, PV.leC, PV.Le_v, St.get, St.obj, look, rho, isNew, keptC, renH, Mode.ok, Mode.isZ, PV.isVal, PV.isNilSl, List.all_nil, List.all_cons, List.any_nil, List.any_cons, List.map_nil, List.map_cons, res62]
theorem ev_clA : ∀ (n : Nat) (f : Nat → ByteArray) (m : Nat) (w : Nat → Nat) (h : Nat → Nat → Int), ev G0 res38 [] (3000 : Nat) (Or.call [] (AV.own (0 : Nat)) [((0 : Nat), Ob.row Mode.u false (1 : Nat) n (TR f) [])] (Or.call [] (AV.own (0 : Nat)) [((0 : Nat), Ob.row Mode.u false (1 : Nat) m (RR w h) [])] Or.nil)) [Item.ir ir38] (start [TA false false n f m w h] []) = VC.call (35 : Nat) [AV.p false (PV.sl false (1 : Nat) n fun (i x : Nat) => PT (f i))] [] (AV.own (0 : Nat)) [((0 : Nat), Ob.row Mode.u false (1 : Nat) n (TR f) [])] (VC.call (62 : Nat) [AV.p false (PV.sl false (1 : Nat) m (RR w h))] [] (AV.own (0 : Nat)) [((0 : Nat), Ob.row Mode.u false (1 : Nat) m (RR w h) [])] (VC.done (St.mk [((0 : Nat), AV.ag [AV.p false (PV.sl false (1 : Nat) n fun (i x : Nat) => PT (f i)), AV.p false (PV.sl false (1 : Nat) m (RR w h))]), ((1 : Nat), AV.adr (1 : Nat) (0 : Nat)), ((2 : Nat), AV.adr (2 : Nat) (0 : Nat))] [((1 : Nat), Ob.box [AV.p false (PV.sl false (1 : Nat) n fun (i x : Nat) => PT (f i)), AV.p false (PV.sl false (1 : Nat) m (RR w h))]), ((2 : Nat), Ob.box [AV.own (1005 : Nat), AV.own (1008 : Nat)]), ((1005 : Nat), Ob.row Mode.u false (1 : Nat) n (TR f) []), ((1008 : Nat), Ob.row Mode.u false (1 : Nat) m (RR w h) [])]))) := by intros; kernel_rfl
theorem c_clA (n : Nat) (f : Nat → ByteArray) (m : Nat) (w : Nat → Nat) (h : Nat → Nat → Int) (hn : n ≤ 1048576) (hm : m ≤ 1048576) (hw : ∀ i, i < m → w i ≤ 1048576) : PObj Tryd.prog G0 38 [TA false false n f m w h] [] taR (taH n f m w h) := by
  refine PObj.by chk38 rfl (ev_clA n f m w h) ?_
  simp only [VC.holds_split, VC.holds_need, VC.holds_doneP, VC.holds_done, VC.holds_either, VC.holds_call, VC.holds_callE, VC.holds_lend, VC.holds_stop, VC.holds_fail, decide_eq_true_eq, decide_eq_false_iff_not]
  refine ⟨c_clT _ _ hn, c_clR _ _ _ _ hm hw, ResOk.mk [] [(0, 1005), (1, 1008)] [] _ _ ?_ ⟨rfl, rfl⟩⟩
  simp [doneC, resOf, resAV, tup, pinR, PV.Le_self, hbs, St.lowers, St.lower, stLe, leEnv, leObs, obLe, injB, pinC, AV.leC, AV.leCs, PV.leC, PV.Le_v, St.get, St.obj, look, rho, isNew, keptC, renH, Mode.ok, Mode.isZ, PV.isVal, PV.isNilSl, List.all_nil, List.all_cons, List.any_nil, List.any_cons, List.map_nil, List.map_cons, res38]
end Go.Gw

namespace Go.Gw
open Go Go.Proofs
set_option linter.unusedSimpArgs false
set_option linter.unusedVariables false
set_option maxRecDepth 100000

def lenOf : PV → Nat
  | .sl _ _ n _ => n
  | _ => 0
structure TaOk (n : Nat) (f : Nat → ByteArray) (m : Nat) (w : Nat → Nat) : Prop where
  hn : n ≤ 1048576
  hf : ∀ i, i < n → (f i).size ≤ 1048576
  hm : m ≤ 1048576
  hw : ∀ i, i < m → w i ≤ 1048576
end Go.Gw
