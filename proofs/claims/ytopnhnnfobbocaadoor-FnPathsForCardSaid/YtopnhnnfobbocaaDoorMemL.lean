/- Memories: the leaf of an address, by the model; with no condition. -/
import Derived.Test.YtopnhnnfobbocaaDoorMemC
import Derived.KernelRfl
namespace Go.Gw
open Go Go.Proofs
set_option linter.unusedSimpArgs false
set_option linter.unusedVariables false
set_option maxRecDepth 100000
def ir65_L1 : Ir :=
  (.seq
  (.seq
  (.reg [15, 16, 17, 18] [o 15 (.mov (tt 6)),
    o 16 (.fadr 0 (tt 2)),
    o 17 (.load false 1 (tt 16)),
    o 18 (.len (tt 17)),
    o 19 (.bin .lss (tt 15) (tt 18))])
  (.cond (tt 19)
   .skip
   (.exit 0)))
  (.seq
  (.block 1
   (.reg [22, 23, 24, 25, 26, 27, 28] [o 22 (.mov (tt 5)),
     o 23 (.fadr 0 (tt 2)),
     o 24 (.load false 1 (tt 23)),
     o 25 (.mov (tt 6)),
     o 26 (.idx 1 (tt 24) (tt 25)),
     o 27 (.load false 1 (tt 26)),
     o 28 (.app 3 24 true (tt 22) (tt 27)),
     o 5 (.mov (tt 28))]))
  (.reg [20, 21] [o 20 (.mov (tt 6)),
    o 21 (.bin .add (tt 20) (ci 1)),
    o 6 (.mov (tt 21))])))
def ir65_L2 : Ir :=
  (.seq
  (.seq
  (.reg [29, 30, 31] [o 29 (.mov (tt 7)),
    o 30 (.mov (tt 5)),
    o 31 (.len (tt 30)),
    o 32 (.bin .lss (tt 29) (tt 31))])
  (.cond (tt 32)
   .skip
   (.exit 2)))
  (.seq
  (.block 3
   (.seq
   (.reg [35, 36, 37, 38, 39, 40] [o 35 (.mov (tt 5)),
     o 36 (.mov (tt 7)),
     o 37 (.idx 3 (tt 35) (tt 36)),
     o 38 (.fadr 0 (tt 37)),
     o 39 (.load false 1 (tt 38)),
     o 40 (.mov (tt 1)),
     o 41 (.bin .eql (tt 39) (tt 40))])
   (.cond (tt 41)
    (.seq
    (.reg [42, 43, 44, 45, 46] [o 42 (.mov (tt 5)),
      o 43 (.mov (tt 7)),
      o 44 (.idx 3 (tt 42) (tt 43)),
      o 45 (.fadr 2 (tt 44)),
      o 46 (.load false 1 (tt 45)),
      o 4 (.mov (tt 46))])
    .ret)
    .skip)))
  (.reg [33, 34] [o 33 (.mov (tt 7)),
    o 34 (.bin .add (tt 33) (ci 1)),
    o 7 (.mov (tt 34))])))
def ir65_T3 : Ir :=
  (.seq
  (.reg [] [o 4 (.mov (ci (-1)))])
  .ret)
def ir65_T4 : Ir :=
  (.seq
  (.seq
  (.reg [] [o 7 (.mov (ci 0))])
  (.block 2
   (.loop ir65_L2)))
  ir65_T3)
def ir65 : Ir :=
  (.seq
  (.reg [] [o 2 (.box 2 (tt 0)),
    o 4 (.mov (ci 0))])
  (.seq
  (.seq
  (.reg [8, 9] [o 8 (.load true 2 (tt 2)),
    o 9 (.call 63 [(tt 8)]),
    o 10 (.un .not (tt 9))])
  (.cond (tt 10)
   (.seq
   (.reg [] [o 4 (.mov (ci (-1)))])
   .ret)
   .skip))
  (.seq
  (.reg [11, 12, 13, 14] [o 11 (.mkSl 3 0 [(.int .i64 0), (.int .i64 0), (.int .i64 0)] []),
    o 12 (.fadr 1 (tt 2)),
    o 13 (.load false 1 (tt 12)),
    o 14 (.app 3 24 true (tt 11) (tt 13)),
    o 5 (.mov (tt 14))])
  (.seq
  (.seq
  (.reg [] [o 6 (.mov (ci 0))])
  (.block 0
   (.loop ir65_L1)))
  ir65_T4))))
def keep65 : List Nat := [0, 1, 2, 4, 5, 6, 7, 10, 19, 32, 41]
def res65 : List RI := [.tmp 4]
theorem chk65 : chk Tryd.prog 65 2 keep65 = some (ir65, res65) := by kernel_rfl

def fndB (A : List Blk) (x : Int) : Int := ixP (fun j => (A.getD j b0).a == x) A.length
def leafM (T : List (List Blk)) (S : List Blk) (x : Int) : Int := if memB T S = true then (if 0 ≤ fndB (S ++ T.flatten) x then (blkOf (S ++ T.flatten) x).l else -1) else -1
def in_lf (T : List (List Blk)) (S : List Blk) (x : Int) := (G0, res65, ([] : List (Nat × Ob)), [Item.ir ir65], start [ME T S, AI x] [])
theorem ev_lf : ∀ (T : List (List Blk)) (S : List Blk) (x : Int), ev G0 res65 [] (3000 : Nat) (Or.call [] (AB (smB T S)) [] (Or.nil.split Or.nil)) [Item.ir ir65] (start [ME T S, AI x] []) = VC.call (63 : Nat) [AV.ag [AV.p false (PV.sl false (1 : Nat) T.length (BB T)), AV.p false (PV.sl false (3 : Nat) S.length (SB S))]] [] (AB (smB T S)) [] (VC.split (!smB T S) (VC.doneP (AV.p true (PV.v (Value.int IntKind.i64 (-1 : Int))))) (VC.need ((((0 : Nat) + S.length) * (24 : Nat) ≤ (140737488355328 : Nat) ∧ (↑((0 : Nat) + S.length) : Int) ≤ (9223372036854775807 : Int)) ∧ allV (3 : Nat) S.length (SB S)) (VC.loop ir65_L1 [Item.bend (0 : Nat), Item.ir ir65_T4] (St.mk [((0 : Nat), AV.ag [AV.p false (PV.sl false (1 : Nat) T.length (BB T)), AV.p false (PV.sl false (3 : Nat) S.length (SB S))]), ((1 : Nat), AV.p true (PV.v (Value.int IntKind.i64 x))), ((2 : Nat), AV.adr (2 : Nat) (0 : Nat)), ((4 : Nat), AV.p true (PV.v (Value.int IntKind.i64 (0 : Int)))), ((10 : Nat), AV.p true (PV.v (Value.bool !smB T S))), ((5 : Nat), AV.own (14 : Nat)), ((6 : Nat), AV.p true (PV.v (Value.int IntKind.i64 (0 : Int))))] [((2 : Nat), Ob.box [AV.p false (PV.sl false (1 : Nat) T.length (BB T)), AV.p false (PV.sl false (3 : Nat) S.length (SB S))]), ((14 : Nat), Ob.row Mode.u true (3 : Nat) ((0 : Nat) + S.length) (fun (a b : Nat) => if a < (0 : Nat) then setG [] (fun (x_1 j : Nat) => PV.v ([Value.int IntKind.i64 (0 : Int), Value.int IntKind.i64 (0 : Int), Value.int IntKind.i64 (0 : Int)].getD j undef)) a b else SB S (a - (0 : Nat)) b) [])])))) := by intros; kernel_rfl
def st_lf (T : List (List Blk)) (S : List Blk) (x : Int) (k : Nat) : St := ⟨[(1, AI x), (2, .adr 2 0), (4, AI 0), (5, .own 14), (6, AI k)], [(2, MBX T S), (14, .row .u true 3 (S ++ (T.take k).flatten).length (SB (S ++ (T.take k).flatten)) [])]⟩
def r_lf (T : List (List Blk)) (S : List Blk) (x : Int) (I : Nat → St → Prop) (k : Nat) := (G0, res65, ([] : List (Nat × Ob)), [Item.ir ir65_L1, .lend (I k), Item.bend 0, Item.ir ir65_T4], st_lf T S x k)
theorem evr_lf : ∀ (T : List (List Blk)) (S : List Blk) (x : Int) (I : Nat → St → Prop) (k : Nat), ev G0 res65 [] (3000 : Nat) (Or.nil.split Or.nil) [Item.ir ir65_L1, Item.lend (I k), Item.bend (0 : Nat), Item.ir ir65_T4] (st_lf T S x k) = VC.split (decide ((↑k : Int) < (↑T.length : Int))) (VC.need ((0 : Int) ≤ (↑k : Int) ∧ (↑k : Int).toNat < T.length) (VC.need ((((S ++ (List.take k T).flatten).length + (T.getD (↑k : Int).toNat []).length) * (24 : Nat) ≤ (140737488355328 : Nat) ∧ (↑((S ++ (List.take k T).flatten).length + (T.getD (↑k : Int).toNat []).length) : Int) ≤ (9223372036854775807 : Int)) ∧ allV (3 : Nat) (T.getD (↑k : Int).toNat []).length (SB (T.getD (↑k : Int).toNat []))) (VC.lend (I k) (St.mk [((1 : Nat), AV.p true (PV.v (Value.int IntKind.i64 x))), ((2 : Nat), AV.adr (2 : Nat) (0 : Nat)), ((4 : Nat), AV.p true (PV.v (Value.int IntKind.i64 (0 : Int)))), ((5 : Nat), AV.own (28 : Nat)), ((6 : Nat), AV.p true (PV.v (Value.int IntKind.i64 (IntKind.i64.wrap ((↑k : Int) + (1 : Int)))))), ((19 : Nat), AV.p true (PV.v (Value.bool (decide ((↑k : Int) < (↑T.length : Int))))))] [((2 : Nat), Ob.box [AV.p false (PV.sl false (1 : Nat) T.length (BB T)), AV.p false (PV.sl false (3 : Nat) S.length (SB S))]), ((28 : Nat), Ob.row Mode.u true (3 : Nat) ((S ++ (List.take k T).flatten).length + (T.getD (↑k : Int).toNat []).length) (fun (a b : Nat) => if a < (S ++ (List.take k T).flatten).length then SB (S ++ (List.take k T).flatten) a b else SB (T.getD (↑k : Int).toNat []) (a - (S ++ (List.take k T).flatten).length) b) [])])))) (VC.loop ir65_L2 [Item.bend (2 : Nat), Item.ir ir65_T3] (St.mk [((1 : Nat), AV.p true (PV.v (Value.int IntKind.i64 x))), ((2 : Nat), AV.adr (2 : Nat) (0 : Nat)), ((4 : Nat), AV.p true (PV.v (Value.int IntKind.i64 (0 : Int)))), ((5 : Nat), AV.own (14 : Nat)), ((6 : Nat), AV.p true (PV.v (Value.int IntKind.i64 (↑k : Int)))), ((19 : Nat), AV.p true (PV.v (Value.bool (decide ((↑k : Int) < (↑T.length : Int)))))), ((7 : Nat), AV.p true (PV.v (Value.int IntKind.i64 (0 : Int))))] [((2 : Nat), Ob.box [AV.p false (PV.sl false (1 : Nat) T.length (BB T)), AV.p false (PV.sl false (3 : Nat) S.length (SB S))]), ((14 : Nat), Ob.row Mode.u true (3 : Nat) (S ++ (List.take k T).flatten).length (SB (S ++ (List.take k T).flatten)) [])])) := by intros; kernel_rfl
def st_lf2 (A : List Blk) (x : Int) (k : Nat) : St := ⟨[(1, AI x), (4, AI 0), (5, .p true (.sl true 3 A.length (SB A))), (7, AI k)], []⟩
def r_lf2 (A : List Blk) (x : Int) (I : Nat → St → Prop) (k : Nat) := (G0, res65, ([] : List (Nat × Ob)), [Item.ir ir65_L2, .lend (I k), Item.bend 2, Item.ir ir65_T3], st_lf2 A x k)
theorem evr_lf2 : ∀ (A : List Blk) (x : Int) (I : Nat → St → Prop) (k : Nat), ev G0 res65 [] (3000 : Nat) ((Or.nil.split Or.nil).split Or.nil) [Item.ir ir65_L2, Item.lend (I k), Item.bend (2 : Nat), Item.ir ir65_T3] (st_lf2 A x k) = VC.split (decide ((↑k : Int) < (↑A.length : Int))) (VC.need ((0 : Int) ≤ (↑k : Int) ∧ (↑k : Int).toNat < A.length) (VC.split ((A.getD (↑k : Int).toNat b0).col ((0 : Nat) + (0 : Nat)) == x) (VC.need ((0 : Int) ≤ (↑k : Int) ∧ (↑k : Int).toNat < A.length) (VC.doneP (AV.p true (PV.v (Value.int IntKind.i64 ((A.getD (↑k : Int).toNat b0).col ((2 : Nat) + (0 : Nat)))))))) (VC.lend (I k) (St.mk [((1 : Nat), AV.p true (PV.v (Value.int IntKind.i64 x))), ((4 : Nat), AV.p true (PV.v (Value.int IntKind.i64 (0 : Int)))), ((5 : Nat), AV.p true (PV.sl true (3 : Nat) A.length (SB A))), ((7 : Nat), AV.p true (PV.v (Value.int IntKind.i64 (IntKind.i64.wrap ((↑k : Int) + (1 : Int)))))), ((32 : Nat), AV.p true (PV.v (Value.bool (decide ((↑k : Int) < (↑A.length : Int)))))), ((41 : Nat), AV.p true (PV.v (Value.bool ((A.getD (↑k : Int).toNat b0).col ((0 : Nat) + (0 : Nat)) == x))))] [])))) (VC.doneP (AV.p true (PV.v (Value.int IntKind.i64 (-1 : Int))))) := by intros; kernel_rfl
theorem c_lf (T : List (List Blk)) (S : List Blk) (x : Int) (hT : T.length ≤ 1048576) (hS : S.length + T.flatten.length ≤ 1048576) : PRet Tryd.prog G0 65 [ME T S, AI x] (AI (leafM T S x)) := by
  refine PRet.by chk65 (ev_lf T S x) ?_
  have sm := c_smB T S hT hS
  rw [smB_eq] at sm
  simp only [VC.holds_split, VC.holds_need, VC.holds_doneP, VC.holds_done, VC.holds_either, VC.holds_call, VC.holds_callE, VC.holds_lend, VC.holds_stop, VC.holds_fail, decide_eq_true_eq, decide_eq_false_iff_not, smB_eq]
  refine ⟨sm, fun h => ?_, fun h => ⟨⟨⟨by omega, by omega⟩, allV_SB⟩, ?_⟩⟩
  · have e := not_t h
    simp [leafM, e]
  have hv := not_f h
  unfold leafM
  rw [if_pos hv]
  refine loop_by (st_lf T S x) (fun k => k ≤ T.length) (fun k => T.length - k) 0 [] [] [] (by simp) ?_ (evr_lf T S x) fun k hk => ?_
  · simp [st_lf, hbs, St.lowers, St.lower, stLe, leEnv, leObs, obLe, injB, pinC, AV.leC, AV.leCs, PV.leC, PV.Le_v, St.get, St.obj, look, rho, isNew, keptC, renH, Mode.ok, Mode.isZ, PV.isVal, PV.isNilSl, List.all_nil, List.all_cons, List.any_nil, List.any_cons, List.map_nil, List.map_cons, PV.Le_self]
  · have ek : IntKind.i64.wrap ((k : Int) + 1) = ((k + 1 : Nat) : Int) := wrap_in (by omega) (by omega)
    simp only [VC.holds_split, VC.holds_need, VC.holds_doneP, VC.holds_done, VC.holds_either, VC.holds_call, VC.holds_callE, VC.holds_lend, VC.holds_stop, VC.holds_fail, decide_eq_true_eq, decide_eq_false_iff_not, Int.toNat_natCast]
    refine ⟨fun h0 => ?_, fun h0 => ?_⟩
    · have hkT : k < T.length := by omega
      have b1 := flat_le T (k + 1)
      rw [take_flat hkT, List.length_append] at b1
      refine ⟨⟨by omega, by omega⟩, ⟨⟨by rw [List.length_append]; omega, by rw [List.length_append]; omega⟩, allV_SB⟩, Again.mk (k + 1) [] [(14, 28)] [] (by omega) (by omega) ?_⟩
      have e : S ++ (T.take (k + 1)).flatten = (S ++ (T.take k).flatten) ++ T.getD k [] := by rw [take_flat hkT, List.append_assoc]
      simp only [st_lf, e]
      generalize S ++ (T.take k).flatten = A
      simp [hbs, St.lowers, St.lower, stLe, leEnv, leObs, obLe, injB, pinC, AV.leC, AV.leCs, PV.leC, PV.Le_v, St.get, St.obj, look, rho, isNew, keptC, renH, Mode.ok, Mode.isZ, PV.isVal, PV.isNilSl, List.all_nil, List.all_cons, List.any_nil, List.any_cons, List.map_nil, List.map_cons, PV.Le_self, ek]
      intro i j hi hj
      exact SB_app
    · have : k = T.length := by omega
      subst this
      rw [List.take_length]
      have hA : (S ++ T.flatten).length ≤ 1048576 := by rw [List.length_append]; omega
      generalize S ++ T.flatten = A at *
      refine loop_by (st_lf2 A x) (fun k => k ≤ A.length ∧ ∀ j, j < k → ((A.getD j b0).a == x) = false) (fun k => A.length - k) 0 [(14, .f)] [] [] (by simp) ?_ (evr_lf2 A x) fun k hk => ?_
      · simp [st_lf2, hbs, St.lowers, St.lower, stLe, leEnv, leObs, obLe, injB, pinC, AV.leC, AV.leCs, PV.leC, PV.Le_v, St.get, St.obj, look, rho, isNew, keptC, renH, Mode.ok, Mode.isZ, PV.isVal, PV.isNilSl, List.all_nil, List.all_cons, List.any_nil, List.any_cons, List.map_nil, List.map_cons, PV.Le_self, Mode.low, St.setOb, ins]
      · obtain ⟨hk, hal⟩ := hk
        have ek : IntKind.i64.wrap ((k : Int) + 1) = ((k + 1 : Nat) : Int) := wrap_in (by omega) (by omega)
        simp only [VC.holds_split, VC.holds_need, VC.holds_doneP, VC.holds_done, VC.holds_either, VC.holds_call, VC.holds_callE, VC.holds_lend, VC.holds_stop, VC.holds_fail, decide_eq_true_eq, decide_eq_false_iff_not, Int.toNat_natCast]
        refine ⟨fun h1 => ⟨⟨by omega, by omega⟩, fun h2 => ⟨⟨by omega, by omega⟩, ?_⟩, fun h2 => Again.mk (k + 1) [] [] [] ⟨by omega, fun j hj => ?_⟩ (by omega) ?_⟩, fun h1 => ?_⟩
        · have e : fndB A x = k := ixP_at (q := fun j => (A.getD j b0).a == x) h2 hal (by omega)
          have e2 : ixP (fun j => (A.getD j b0).a == x) A.length = k := e
          have e3 : blkOf A x = A.getD k b0 := by unfold blkOf; rw [e2, Int.toNat_natCast]
          rw [e, if_pos (by omega), e3]
          exact ⟨rfl, trivial⟩
        · by_cases h3 : j = k
          · subst h3; exact h2
          · exact hal j (by omega)
        · simp [st_lf2, hbs, St.lowers, St.lower, stLe, leEnv, leObs, obLe, injB, pinC, AV.leC, AV.leCs, PV.leC, PV.Le_v, St.get, St.obj, look, rho, isNew, keptC, renH, Mode.ok, Mode.isZ, PV.isVal, PV.isNilSl, List.all_nil, List.all_cons, List.any_nil, List.any_cons, List.map_nil, List.map_cons, PV.Le_self, ek]
        · have : k = A.length := by omega
          subst this
          have e : fndB A x = -1 := ixP_no hal
          rw [e]; simp
end Go.Gw
