/- Memories: their blocks, and which are valid; with no condition. -/
import Derived.Test.YtopnhnnfobbocaaDoorMemB
import Derived.KernelRfl
namespace Go.Gw
open Go Go.Proofs
set_option linter.unusedSimpArgs false
set_option linter.unusedVariables false
set_option maxRecDepth 100000
def ir61 : Ir :=
  (.seq
  (.reg [] [o 2 (.mov (cb false))])
  (.seq
  (.reg [3, 4] [o 3 (.mov (tt 0)),
    o 4 (.call 129 [(tt 3), (ci 0), (ci 3)]),
    o 2 (.mov (tt 4))])
  .ret))
def keep61 : List Nat := [0, 2]
def res61 : List RI := [.tmp 2]
theorem chk61 : chk Tryd.prog 61 1 keep61 = some (ir61, res61) := by kernel_rfl
def ir60 : Ir :=
  (.seq
  (.reg [] [o 2 (.mov (cb false))])
  (.seq
  (.reg [3, 4] [o 3 (.mov (tt 0)),
    o 4 (.call 129 [(tt 3), (ci 0), (ci 7)]),
    o 2 (.mov (tt 4))])
  .ret))
def keep60 : List Nat := [0, 2]
def res60 : List RI := [.tmp 2]
theorem chk60 : chk Tryd.prog 60 1 keep60 = some (ir60, res60) := by kernel_rfl
def ir62 : Ir :=
  (.seq
  (.reg [] [o 2 (.mov (.const (.slice none 0 0)))])
  (.seq
  (.reg [3, 4, 5, 6, 7, 8] [o 3 (.mov (tt 0)),
    o 4 (.bin .quo (tt 3) (ci 2)),
    o 5 (.bin .add (ci 1) (tt 4)),
    o 6 (.mov (tt 0)),
    o 7 (.bin .add (ci 3) (tt 6)),
    o 8 (.mkSl 1 3 [(.int .i64 0)] [(0, (ci 0)), (1, (tt 5)), (2, (tt 7))]),
    o 2 (.mov (tt 8))])
  .ret))
def keep62 : List Nat := [0, 2]
def res62 : List RI := [.tmp 2]
theorem chk62 : chk Tryd.prog 62 1 keep62 = some (ir62, res62) := by kernel_rfl
def ir59_L1 : Ir :=
  (.seq
  (.reg [] [o 13 (.bin .lss (tt 12) (tt 11))])
  (.seq
  (.cond (tt 13)
   .skip
   (.exit 0))
  (.seq
  (.block 1
   (.seq
   (.reg [14, 15] [o 14 (.idx 1 (tt 10) (tt 12)),
     o 15 (.load false 1 (tt 14)),
     o 5 (.mov (tt 15))])
   (.reg [16, 17, 18] [o 16 (.mov (tt 3)),
     o 17 (.mov (tt 5)),
     o 18 (.app 3 24 true (tt 16) (tt 17)),
     o 3 (.mov (tt 18))])))
  (.reg [19] [o 19 (.bin .add (tt 12) (ci 1)),
    o 12 (.mov (tt 19))]))))
def ir59_T2 : Ir :=
  (.seq
  (.reg [20] [o 20 (.mov (tt 3)),
    o 2 (.mov (tt 20))])
  .ret)
def ir59 : Ir :=
  (.seq
  (.reg [] [o 1 (.box 2 (tt 0)),
    o 2 (.mov (.const (.slice none 0 0)))])
  (.seq
  (.reg [6, 7, 8] [o 6 (.fadr 1 (tt 1)),
    o 7 (.load false 1 (tt 6)),
    o 8 (.app 3 24 true (.const (.slice none 0 0)) (tt 7)),
    o 3 (.mov (tt 8))])
  (.seq
  (.seq
  (.reg [9] [o 9 (.fadr 0 (tt 1)),
    o 10 (.load false 1 (tt 9)),
    o 11 (.len (tt 10)),
    o 12 (.mov (ci 0))])
  (.block 0
   (.loop ir59_L1)))
  ir59_T2)))
def keep59 : List Nat := [0, 1, 2, 3, 5, 10, 11, 12, 13]
def res59 : List RI := [.tmp 2]
theorem chk59 : chk Tryd.prog 59 1 keep59 = some (ir59, res59) := by kernel_rfl
def ir166_L1 : Ir :=
  (.seq
  (.reg [] [o 9 (.bin .lss (tt 8) (tt 7))])
  (.seq
  (.cond (tt 9)
   .skip
   (.exit 0))
  (.seq
  (.block 1
   (.seq
   (.reg [10] [o 10 (.mov (tt 8)),
     o 5 (.mov (tt 10))])
   (.seq
   (.reg [11, 12, 13, 14, 15] [o 11 (.mov (tt 1)),
     o 12 (.mov (tt 0)),
     o 13 (.mov (tt 5)),
     o 14 (.idx 1 (tt 12) (tt 13)),
     o 15 (.load false 1 (tt 14)),
     o 16 (.bin .eql (tt 11) (tt 15))])
   (.cond (tt 16)
    (.seq
    (.reg [17] [o 17 (.mov (tt 5)),
      o 4 (.mov (tt 17))])
    .ret)
    .skip))))
  (.reg [18] [o 18 (.bin .add (tt 8) (ci 1)),
    o 8 (.mov (tt 18))]))))
def ir166_T2 : Ir :=
  (.seq
  (.reg [] [o 4 (.mov (ci (-1)))])
  .ret)
def ir166 : Ir :=
  (.seq
  (.reg [] [o 4 (.mov (ci 0))])
  (.seq
  (.seq
  (.reg [6] [o 6 (.mov (tt 0)),
    o 7 (.len (tt 6)),
    o 8 (.mov (ci 0))])
  (.block 0
   (.loop ir166_L1)))
  ir166_T2))
def keep166 : List Nat := [0, 1, 4, 5, 7, 8, 9, 16]
def res166 : List RI := [.tmp 4]
theorem chk166 : chk Tryd.prog 166 2 keep166 = some (ir166, res166) := by kernel_rfl
def ir136 : Ir :=
  (.seq
  (.reg [] [o 4 (.mov (cb false))])
  (.seq
  (.reg [5, 6, 7, 8] [o 5 (.mov (tt 0)),
    o 6 (.mov (tt 1)),
    o 7 (.call 166 [(tt 5), (tt 6)]),
    o 8 (.bin .geq (tt 7) (ci 0)),
    o 4 (.mov (tt 8))])
  .ret))
def keep136 : List Nat := [0, 1, 4]
def res136 : List RI := [.tmp 4]
theorem chk136 : chk Tryd.prog 136 2 keep136 = some (ir136, res136) := by kernel_rfl
def ir135 : Ir :=
  (.seq
  (.reg [] [o 2 (.box 3 (tt 0)),
    o 3 (.mov (cb false))])
  (.seq
  (.dreg [4, 5, 6, 7, 8, 9] [0, 1, 3, 0, 15, 31, 63] [(1, 1005), (2, 1006), (2, 2006), (2, 3006), (2, 4006), (2, 5006), (2, 6006), (2, 7006), (2, 8006), (3, 1007), (4, 1008), (4, 2008), (4, 3008), (4, 4008), (4, 5008), (4, 6008), (4, 7008), (4, 8008)] [o 4 (.fadr 2 (tt 2)),
    o 5 (.load false 1 (tt 4)),
    o 6 (.call 62 [(tt 5)]),
    o 7 (.load false 1 (tt 1)),
    o 8 (.call 136 [(tt 6), (tt 7)]),
    o 9 (.un .not (tt 8)),
    o 3 (.mov (tt 9))])
  .ret))
def keep135 : List Nat := [0, 1, 2, 3]
def res135 : List RI := [.tmp 3]
theorem chk135 : chk Tryd.prog 135 2 keep135 = some (ir135, res135) := by kernel_rfl
def ir167 : Ir :=
  (.seq
  (.reg [] [o 2 (.box 3 (tt 0)),
    o 3 (.mov (cb false))])
  (.seq
  (.reg [4, 5, 6, 7] [o 4 (.fadr 0 (tt 2)),
    o 5 (.load false 1 (tt 4)),
    o 6 (.load false 1 (tt 1)),
    o 7 (.bin .eql (tt 5) (tt 6)),
    o 3 (.mov (tt 7))])
  .ret))
def keep167 : List Nat := [0, 1, 2, 3]
def res167 : List RI := [.tmp 3]
theorem chk167 : chk Tryd.prog 167 2 keep167 = some (ir167, res167) := by kernel_rfl

structure Blk where
  a : Int
  v : Int
  l : Int
deriving DecidableEq
def Blk.col (b : Blk) : Nat → Int
  | 0 => b.a
  | 1 => b.v
  | _ => b.l
def b0 : Blk := ⟨0, 0, 0⟩
abbrev BA (b : Blk) : AV := .ag [AI b.a, AI b.v, AI b.l]
abbrev SB (S : List Blk) : Nat → Nat → PV := fun i c => PI ((S.getD i b0).col c)
abbrev BS (nn : Bool) (S : List Blk) : AV := .p false (.sl nn 3 S.length (SB S))
abbrev BB (T : List (List Blk)) : Nat → Nat → PV := fun i _ => .sl false 3 (T.getD i []).length (SB (T.getD i []))
abbrev BL (nn : Bool) (T : List (List Blk)) : AV := .p false (.sl nn 1 T.length (BB T))
abbrev ME (T : List (List Blk)) (S : List Blk) : AV := .ag [BL false T, BS false S]
theorem allV_SB {S : List Blk} {n : Nat} : allV 3 n (SB S) := fun _ _ _ _ => rfl
theorem SB_le {S S' : List Blk} {i j c : Nat} (h : S.getD i b0 = S'.getD j b0) : PV.Le (SB S i c) (SB S' j c) := by simp only [SB, h]; exact .refl _
theorem getD_app {α : Type} {d : α} {A B : List α} {i : Nat} : (A ++ B).getD i d = if i < A.length then A.getD i d else B.getD (i - A.length) d := by
  simp only [List.getD_eq_getElem?_getD]
  split
  · rw [List.getElem?_append_left (by omega)]
  · rw [List.getElem?_append_right (by omega)]
theorem SB_app {A B : List Blk} {i c : Nat} : PV.Le (if i < A.length then SB A i c else SB B (i - A.length) c) (SB (A ++ B) i c) := by
  split
  · rename_i h; exact SB_le (by rw [getD_app, if_pos h])
  · rename_i h
    simp only [SB, getD_app, if_neg h]; exact .refl _
/-! ### small ones -/
def in_isL (x : Int) := (G0, res61, ([] : List (Nat × Ob)), [Item.ir ir61], start [AI x] [])
theorem ev_isL : ∀ (x : Int), ev G0 res61 [] (3000 : Nat) (Or.call [] (AB (inB x (0 : Int) (3 : Int))) [] Or.nil) [Item.ir ir61] (start [AI x] []) = VC.call (129 : Nat) [AV.p true (PV.v (Value.int IntKind.i64 x)), AV.p true (PV.v (Value.int IntKind.i64 (0 : Int))), AV.p true (PV.v (Value.int IntKind.i64 (3 : Int)))] [] (AB (inB x (0 : Int) (3 : Int))) [] (VC.doneP (AV.p true (PV.v (Value.bool (inB x (0 : Int) (3 : Int)))))) := by intros; kernel_rfl
theorem c_isL (x : Int) : PRet Tryd.prog G0 61 [AI x] (AB (inB x 0 3)) := by
  refine PRet.by chk61 (ev_isL x) ?_
  simp only [VC.holds_split, VC.holds_need, VC.holds_doneP, VC.holds_done, VC.holds_either, VC.holds_call, VC.holds_callE, VC.holds_lend, VC.holds_stop, VC.holds_fail, decide_eq_true_eq, decide_eq_false_iff_not]
  exact ⟨c_in _ _ _, by simp⟩
def in_isA (x : Int) := (G0, res60, ([] : List (Nat × Ob)), [Item.ir ir60], start [AI x] [])
theorem ev_isA : ∀ (x : Int), ev G0 res60 [] (3000 : Nat) (Or.call [] (AB (inB x (0 : Int) (7 : Int))) [] Or.nil) [Item.ir ir60] (start [AI x] []) = VC.call (129 : Nat) [AV.p true (PV.v (Value.int IntKind.i64 x)), AV.p true (PV.v (Value.int IntKind.i64 (0 : Int))), AV.p true (PV.v (Value.int IntKind.i64 (7 : Int)))] [] (AB (inB x (0 : Int) (7 : Int))) [] (VC.doneP (AV.p true (PV.v (Value.bool (inB x (0 : Int) (7 : Int)))))) := by intros; kernel_rfl
theorem c_isA (x : Int) : PRet Tryd.prog G0 60 [AI x] (AB (inB x 0 7)) := by
  refine PRet.by chk60 (ev_isA x) ?_
  simp only [VC.holds_split, VC.holds_need, VC.holds_doneP, VC.holds_done, VC.holds_either, VC.holds_call, VC.holds_callE, VC.holds_lend, VC.holds_stop, VC.holds_fail, decide_eq_true_eq, decide_eq_false_iff_not]
  exact ⟨c_in _ _ _, by simp⟩
def pathL (l : Int) : List Int := [0, 1 + l / 2, 3 + l]
abbrev PA (l : Int) : Nat → Nat → PV := fun i _ => PI (litI (pathL l) i)
def in_path (x : Int) := (G0, res62, ([] : List (Nat × Ob)), [Item.ir ir62], start [AI x] [])
theorem ev_path : ∀ (x : Int), ev G0 res62 [] (3000 : Nat) Or.nil [Item.ir ir62] (start [AI x] []) = VC.need ((2 : Int) ≠ (0 : Int)) (VC.done (St.mk [((0 : Nat), AV.p true (PV.v (Value.int IntKind.i64 x))), ((2 : Nat), AV.own (8 : Nat))] [((8 : Nat), Ob.row Mode.u true (1 : Nat) (3 : Nat) (fun (i x_1 : Nat) => PV.v (Value.int IntKind.i64 (litI [(0 : Int), IntKind.i64.wrap ((1 : Int) + IntKind.i64.wrap (x.tdiv (2 : Int))), IntKind.i64.wrap ((3 : Int) + x)] i))) [])])) := by intros; kernel_rfl
theorem path_w {x : Int} (hx : 0 ≤ x ∧ x ≤ 3) : IntKind.i64.wrap (1 + IntKind.i64.wrap (x.tdiv 2)) = 1 + x / 2 ∧ IntKind.i64.wrap (3 + x) = 3 + x := by
  have e : x.tdiv 2 = x / 2 := Int.tdiv_eq_ediv_of_nonneg hx.1
  have e1 : IntKind.i64.wrap (x / 2) = x / 2 := wrap_in (by omega) (by omega)
  rw [e, e1]
  exact ⟨wrap_in (by omega) (by omega), wrap_in (by omega) (by omega)⟩
theorem c_path (x : Int) (hx : 0 ≤ x ∧ x ≤ 3) : PObj Tryd.prog G0 62 [AI x] [] (.own 0) [(0, .row .u true 1 3 (PA x) [])] := by
  refine PObj.by chk62 rfl (ev_path x) ?_
  obtain ⟨w1, w2⟩ := path_w hx
  simp only [VC.holds_split, VC.holds_need, VC.holds_doneP, VC.holds_done, VC.holds_either, VC.holds_call, VC.holds_callE, VC.holds_lend, VC.holds_stop, VC.holds_fail, decide_eq_true_eq, decide_eq_false_iff_not, w1, w2]
  refine ⟨by omega, ResOk.mk [] [(0, 8)] [] _ _ ?_ ⟨rfl, rfl⟩⟩
  simp [doneC, resOf, resAV, tup, pinR, PV.Le_self, hbs, St.lowers, St.lower, stLe, leEnv, leObs, obLe, injB, pinC, AV.leC, AV.leCs, PV.leC, PV.Le_v, St.get, St.obj, look, rho, isNew, keptC, renH, Mode.ok, Mode.isZ, PV.isVal, PV.isNilSl, List.all_nil, List.all_cons, List.any_nil, List.any_cons, List.map_nil, List.map_cons, res62, PA, pathL]
/-! ### all blocks -/
def in_all (T : List (List Blk)) (S : List Blk) := (G0, res59, ([] : List (Nat × Ob)), [Item.ir ir59], start [ME T S] [])
theorem ev_all : ∀ (T : List (List Blk)) (S : List Blk), ev G0 res59 [] (3000 : Nat) Or.nil [Item.ir ir59] (start [ME T S] []) = VC.need ((S.length * (24 : Nat) ≤ (140737488355328 : Nat) ∧ (↑S.length : Int) ≤ (9223372036854775807 : Int)) ∧ allV (3 : Nat) S.length (SB S)) (VC.loop ir59_L1 [Item.bend (0 : Nat), Item.ir ir59_T2] (St.mk [((0 : Nat), AV.ag [AV.p false (PV.sl false (1 : Nat) T.length (BB T)), AV.p false (PV.sl false (3 : Nat) S.length (SB S))]), ((1 : Nat), AV.adr (1 : Nat) (0 : Nat)), ((2 : Nat), AV.p true (PV.v (Value.slice none (0 : Nat) (0 : Nat)))), ((3 : Nat), AV.own (8 : Nat)), ((10 : Nat), AV.p false (PV.sl false (1 : Nat) T.length (BB T))), ((11 : Nat), AV.p true (PV.v (Value.int IntKind.i64 (↑T.length : Int)))), ((12 : Nat), AV.p true (PV.v (Value.int IntKind.i64 (0 : Int))))] [((1 : Nat), Ob.box [AV.p false (PV.sl false (1 : Nat) T.length (BB T)), AV.p false (PV.sl false (3 : Nat) S.length (SB S))]), ((8 : Nat), Ob.row Mode.u false (3 : Nat) S.length (SB S) [])])) := by intros; kernel_rfl
def st_all (T : List (List Blk)) (S : List Blk) (k : Nat) : St := ⟨[(3, .own 8), (10, BL false T), (11, AI T.length), (12, AI k)], [(8, .row .u false 3 (S ++ (T.take k).flatten).length (SB (S ++ (T.take k).flatten)) [])]⟩
def r_all (T : List (List Blk)) (S : List Blk) (I : Nat → St → Prop) (k : Nat) := (G0, res59, ([] : List (Nat × Ob)), [Item.ir ir59_L1, .lend (I k), Item.bend 0, Item.ir ir59_T2], st_all T S k)
theorem evr_all : ∀ (T : List (List Blk)) (S : List Blk) (I : Nat → St → Prop) (k : Nat), ev G0 res59 [] (3000 : Nat) (Or.nil.split Or.nil) [Item.ir ir59_L1, Item.lend (I k), Item.bend (0 : Nat), Item.ir ir59_T2] (st_all T S k) = VC.split (decide ((↑k : Int) < (↑T.length : Int))) (VC.need ((0 : Int) ≤ (↑k : Int) ∧ (↑k : Int).toNat < T.length) (VC.need ((((S ++ (List.take k T).flatten).length + (T.getD (↑k : Int).toNat []).length) * (24 : Nat) ≤ (140737488355328 : Nat) ∧ (↑((S ++ (List.take k T).flatten).length + (T.getD (↑k : Int).toNat []).length) : Int) ≤ (9223372036854775807 : Int)) ∧ allV (3 : Nat) (T.getD (↑k : Int).toNat []).length (SB (T.getD (↑k : Int).toNat []))) (VC.lend (I k) (St.mk [((3 : Nat), AV.own (18 : Nat)), ((10 : Nat), AV.p false (PV.sl false (1 : Nat) T.length (BB T))), ((11 : Nat), AV.p true (PV.v (Value.int IntKind.i64 (↑T.length : Int)))), ((12 : Nat), AV.p true (PV.v (Value.int IntKind.i64 (IntKind.i64.wrap ((↑k : Int) + (1 : Int)))))), ((13 : Nat), AV.p true (PV.v (Value.bool (decide ((↑k : Int) < (↑T.length : Int)))))), ((5 : Nat), AV.p false (PV.sl false (3 : Nat) (T.getD (↑k : Int).toNat []).length (SB (T.getD (↑k : Int).toNat []))))] [((18 : Nat), Ob.row Mode.u false (3 : Nat) ((S ++ (List.take k T).flatten).length + (T.getD (↑k : Int).toNat []).length) (fun (a b : Nat) => if a < (S ++ (List.take k T).flatten).length then SB (S ++ (List.take k T).flatten) a b else SB (T.getD (↑k : Int).toNat []) (a - (S ++ (List.take k T).flatten).length) b) [])])))) (VC.done (St.mk [((3 : Nat), AV.own (8 : Nat)), ((10 : Nat), AV.p false (PV.sl false (1 : Nat) T.length (BB T))), ((11 : Nat), AV.p true (PV.v (Value.int IntKind.i64 (↑T.length : Int)))), ((12 : Nat), AV.p true (PV.v (Value.int IntKind.i64 (↑k : Int)))), ((13 : Nat), AV.p true (PV.v (Value.bool (decide ((↑k : Int) < (↑T.length : Int)))))), ((2 : Nat), AV.own (8 : Nat))] [((8 : Nat), Ob.row Mode.u false (3 : Nat) (S ++ (List.take k T).flatten).length (SB (S ++ (List.take k T).flatten)) [])])) := by intros; kernel_rfl
theorem take_flat {T : List (List Blk)} {k : Nat} (hk : k < T.length) : (T.take (k + 1)).flatten = (T.take k).flatten ++ T.getD k [] := by
  rw [List.take_succ_eq_append_getElem hk, List.flatten_append]
  simp [List.getD_eq_getElem?_getD, hk]
theorem flat_le (T : List (List Blk)) (k : Nat) : (T.take k).flatten.length ≤ T.flatten.length := by
  conv => rhs; rw [← List.take_append_drop k T, List.flatten_append, List.length_append]
  omega
theorem c_all (T : List (List Blk)) (S : List Blk) (hT : T.length ≤ 1048576) (hS : S.length + T.flatten.length ≤ 1048576) : PObj Tryd.prog G0 59 [ME T S] [] (.own 0) [(0, .row .u false 3 (S ++ T.flatten).length (SB (S ++ T.flatten)) [])] := by
  refine PObj.by chk59 rfl (ev_all T S) ?_
  simp only [VC.holds_split, VC.holds_need, VC.holds_doneP, VC.holds_done, VC.holds_either, VC.holds_call, VC.holds_callE, VC.holds_lend, VC.holds_stop, VC.holds_fail, decide_eq_true_eq, decide_eq_false_iff_not]
  refine ⟨⟨⟨by omega, by omega⟩, allV_SB⟩, loop_by (st_all T S) (fun k => k ≤ T.length) (fun k => T.length - k) 0 [] [] [] (Nat.zero_le _) ?_ (evr_all T S) fun k hk => ?_⟩
  · simp [st_all, hbs, St.lowers, St.lower, stLe, leEnv, leObs, obLe, injB, pinC, AV.leC, AV.leCs, PV.leC, PV.Le_v, St.get, St.obj, look, rho, isNew, keptC, renH, Mode.ok, Mode.isZ, PV.isVal, PV.isNilSl, List.all_nil, List.all_cons, List.any_nil, List.any_cons, List.map_nil, List.map_cons, PV.Le_self]
  · have ek : IntKind.i64.wrap ((k : Int) + 1) = ((k + 1 : Nat) : Int) := wrap_in (by omega) (by omega)
    simp only [VC.holds_split, VC.holds_need, VC.holds_doneP, VC.holds_done, VC.holds_either, VC.holds_call, VC.holds_callE, VC.holds_lend, VC.holds_stop, VC.holds_fail, decide_eq_true_eq, decide_eq_false_iff_not, Int.toNat_natCast]
    refine ⟨fun h0 => ?_, fun h0 => ?_⟩
    · have hkT : k < T.length := by simpa using h0
      have b1 := flat_le T (k + 1)
      rw [take_flat hkT, List.length_append] at b1
      refine ⟨by omega, ⟨⟨by rw [List.length_append]; omega, by rw [List.length_append]; omega⟩, allV_SB⟩, Again.mk (k + 1) [] [(8, 18)] [] (by omega) (by omega) ?_⟩
      have e : S ++ (T.take (k + 1)).flatten = (S ++ (T.take k).flatten) ++ T.getD k [] := by rw [take_flat hkT, List.append_assoc]
      simp only [st_all, e]
      generalize S ++ (T.take k).flatten = A
      generalize T.getD k [] = B
      simp [hbs, St.lowers, St.lower, stLe, leEnv, leObs, obLe, injB, pinC, AV.leC, AV.leCs, PV.leC, PV.Le_v, St.get, St.obj, look, rho, isNew, keptC, renH, Mode.ok, Mode.isZ, PV.isVal, PV.isNilSl, List.all_nil, List.all_cons, List.any_nil, List.any_cons, List.map_nil, List.map_cons, PV.Le_self, ek]
      intro i j hi hj
      exact SB_app
    · have : k = T.length := by omega
      subst this
      refine ResOk.mk [] [(0, 8)] [] _ _ ?_ ⟨rfl, rfl⟩
      rw [List.take_length]
      simp [doneC, resOf, resAV, tup, pinR, PV.Le_self, hbs, St.lowers, St.lower, stLe, leEnv, leObs, obLe, injB, pinC, AV.leC, AV.leCs, PV.leC, PV.Le_v, St.get, St.obj, look, rho, isNew, keptC, renH, Mode.ok, Mode.isZ, PV.isVal, PV.isNilSl, List.all_nil, List.all_cons, List.any_nil, List.any_cons, List.map_nil, List.map_cons, res59]
/-! ### whether a bucket is on a way -/
def onB (l i : Int) : Bool := (i == 0) || (i == 1 + l / 2) || (i == 3 + l)
def ixI (f : Nat → Int) (x : Int) : Nat → Int
  | 0 => -1
  | N + 1 => if 0 ≤ ixI f x N then ixI f x N else if f N = x then (N : Int) else -1
theorem ixI_lt (f : Nat → Int) (x : Int) : ∀ N, -1 ≤ ixI f x N ∧ ixI f x N < N
  | 0 => by simp [ixI]
  | N + 1 => by
    have := ixI_lt f x N
    simp only [ixI]
    split
    · omega
    · split <;> omega
theorem ixI_no {f : Nat → Int} {x : Int} : ∀ {N : Nat}, (∀ j, j < N → ¬ f j = x) → ixI f x N = -1
  | 0, _ => rfl
  | N + 1, h => by
    simp only [ixI, ixI_no (N := N) fun j hj => h j (by omega), h N (by omega)]
    simp
theorem ixI_at {f : Nat → Int} {x : Int} {k : Nat} (hk : f k = x) (h : ∀ j, j < k → ¬ f j = x) : ∀ {N : Nat}, k < N → ixI f x N = k
  | N + 1, hN => by
    by_cases h1 : k = N
    · subst h1
      simp only [ixI, ixI_no h, hk]
      simp
    · simp only [ixI, ixI_at hk h (N := N) (by omega)]
      simp
def in_ixI (nn : Bool) (n : Nat) (f : Nat → Int) (x : Int) := (G0, res166, ([] : List (Nat × Ob)), [Item.ir ir166], start [IL nn n f, AI x] [])
theorem ev_ixI : ∀ (nn : Bool) (n : Nat) (f : Nat → Int) (x : Int), ev G0 res166 [] (3000 : Nat) Or.nil [Item.ir ir166] (start [IL nn n f, AI x] []) = VC.loop ir166_L1 [Item.bend (0 : Nat), Item.ir ir166_T2] (St.mk [((0 : Nat), AV.p false (PV.sl nn (1 : Nat) n fun (i x_1 : Nat) => PI (f i))), ((1 : Nat), AV.p true (PV.v (Value.int IntKind.i64 x))), ((4 : Nat), AV.p true (PV.v (Value.int IntKind.i64 (0 : Int)))), ((7 : Nat), AV.p true (PV.v (Value.int IntKind.i64 (↑n : Int)))), ((8 : Nat), AV.p true (PV.v (Value.int IntKind.i64 (0 : Int))))] []) := by intros; kernel_rfl
def st_ixI (nn : Bool) (n : Nat) (f : Nat → Int) (x : Int) (k : Nat) : St := ⟨[(0, IL nn n f), (1, AI x), (7, AI n), (8, AI k)], []⟩
def r_ixI (nn : Bool) (n : Nat) (f : Nat → Int) (x : Int) (I : Nat → St → Prop) (k : Nat) := (G0, res166, ([] : List (Nat × Ob)), [Item.ir ir166_L1, .lend (I k), Item.bend 0, Item.ir ir166_T2], st_ixI nn n f x k)
theorem evr_ixI : ∀ (nn : Bool) (n : Nat) (f : Nat → Int) (x : Int) (I : Nat → St → Prop) (k : Nat), ev G0 res166 [] (3000 : Nat) ((Or.nil.split Or.nil).split Or.nil) [Item.ir ir166_L1, Item.lend (I k), Item.bend (0 : Nat), Item.ir ir166_T2] (st_ixI nn n f x k) = VC.split (decide ((↑k : Int) < (↑n : Int))) (VC.need ((0 : Int) ≤ (↑k : Int) ∧ (↑k : Int).toNat < n) (VC.split (x == f (↑k : Int).toNat) (VC.doneP (AV.p true (PV.v (Value.int IntKind.i64 (↑k : Int))))) (VC.lend (I k) (St.mk [((0 : Nat), AV.p false (PV.sl nn (1 : Nat) n fun (i x_1 : Nat) => PI (f i))), ((1 : Nat), AV.p true (PV.v (Value.int IntKind.i64 x))), ((7 : Nat), AV.p true (PV.v (Value.int IntKind.i64 (↑n : Int)))), ((8 : Nat), AV.p true (PV.v (Value.int IntKind.i64 (IntKind.i64.wrap ((↑k : Int) + (1 : Int)))))), ((9 : Nat), AV.p true (PV.v (Value.bool (decide ((↑k : Int) < (↑n : Int)))))), ((5 : Nat), AV.p true (PV.v (Value.int IntKind.i64 (↑k : Int)))), ((16 : Nat), AV.p true (PV.v (Value.bool (x == f (↑k : Int).toNat))))] [])))) (VC.doneP (AV.p true (PV.v (Value.int IntKind.i64 (-1 : Int))))) := by intros; kernel_rfl
theorem c_ixI (nn : Bool) (n : Nat) (f : Nat → Int) (x : Int) (hn : n ≤ 1048576) : PRet Tryd.prog G0 166 [IL nn n f, AI x] (AI (ixI f x n)) := by
  refine PRet.by chk166 (ev_ixI nn n f x) ?_
  refine loop_by (st_ixI nn n f x) (fun k => k ≤ n ∧ ∀ j, j < k → ¬ f j = x) (fun k => n - k) 0 [] [] [] (by simp) ?_ (evr_ixI nn n f x) fun k hk => ?_
  · simp [st_ixI, hbs, St.lowers, St.lower, stLe, leEnv, leObs, obLe, injB, pinC, AV.leC, AV.leCs, PV.leC, PV.Le_v, St.get, St.obj, look, rho, isNew, keptC, renH, Mode.ok, Mode.isZ, PV.isVal, PV.isNilSl, List.all_nil, List.all_cons, List.any_nil, List.any_cons, List.map_nil, List.map_cons, PV.Le_self]
  · obtain ⟨hk, hall⟩ := hk
    simp only [VC.holds_split, VC.holds_need, VC.holds_doneP, VC.holds_done, VC.holds_either, VC.holds_call, VC.holds_callE, VC.holds_lend, VC.holds_stop, VC.holds_fail, decide_eq_true_eq, decide_eq_false_iff_not, Int.toNat_natCast]
    refine ⟨fun h1 => ⟨by omega, fun h2 => ?_, fun h2 => Again.mk (k + 1) [] [] [] ⟨by omega, fun j hj => ?_⟩ (by omega) ?_⟩, fun h1 => ?_⟩
    · have h3 : x = f k := by simpa using h2
      rw [ixI_at h3.symm hall (by omega)]; simp
    · by_cases h3 : j = k
      · subst h3; simp at h2; exact fun e => h2 e.symm
      · exact hall j (by omega)
    · have e1 : IntKind.i64.wrap ((k : Int) + 1) = ((k + 1 : Nat) : Int) := wrap_in (by omega) (by omega)
      simp only [e1, st_ixI]
      simp [hbs, St.lowers, St.lower, stLe, leEnv, leObs, obLe, injB, pinC, AV.leC, AV.leCs, PV.leC, PV.Le_v, St.get, St.obj, look, rho, isNew, keptC, renH, Mode.ok, Mode.isZ, PV.isVal, PV.isNilSl, List.all_nil, List.all_cons, List.any_nil, List.any_cons, List.map_nil, List.map_cons, PV.Le_self]
    · have : k = n := by omega
      subst this
      rw [ixI_no hall]; simp
def in_coI (nn : Bool) (n : Nat) (f : Nat → Int) (x : Int) := (G0, res136, ([] : List (Nat × Ob)), [Item.ir ir136], start [IL nn n f, AI x] [])
theorem ev_coI : ∀ (nn : Bool) (n : Nat) (f : Nat → Int) (x : Int), ev G0 res136 [] (3000 : Nat) (Or.call [] (AI (ixI f x n)) [] Or.nil) [Item.ir ir136] (start [IL nn n f, AI x] []) = VC.call (166 : Nat) [AV.p false (PV.sl nn (1 : Nat) n fun (i x_1 : Nat) => PI (f i)), AV.p true (PV.v (Value.int IntKind.i64 x))] [] (AI (ixI f x n)) [] (VC.doneP (AV.p true (PV.v (Value.bool (decide ((0 : Int) ≤ ixI f x n)))))) := by intros; kernel_rfl
theorem path_on (l i : Int) : decide (0 ≤ ixI (litI (pathL l)) i 3) = onB l i := by
  simp only [ixI, pathL, litI, onB]
  by_cases h1 : i = 0
  · subst h1; simp
  · by_cases h2 : i = 1 + l / 2
    · subst h2
      have : ¬ (0 : Int) = 1 + l / 2 := fun e => h1 e.symm
      simp [this]
    · by_cases h3 : i = 3 + l
      · subst h3
        have g1 : ¬ (0 : Int) = 3 + l := fun e => h1 e.symm
        have g2 : ¬ 1 + l / 2 = 3 + l := fun e => h2 e.symm
        simp [g1, g2]
      · have g1 : ¬ (0 : Int) = i := fun e => h1 e.symm
        have g2 : ¬ 1 + l / 2 = i := fun e => h2 e.symm
        have g3 : ¬ 3 + l = i := fun e => h3 e.symm
        simp [g1, g2, g3, h1, h2, h3]
theorem c_coP (l i : Int) : PRet Tryd.prog G0 136 [.p false (.sl true 1 3 (PA l)), AI i] (AB (onB l i)) := by
  refine PRet.by chk136 (ev_coI true 3 (litI (pathL l)) i) ?_
  simp only [VC.holds_split, VC.holds_need, VC.holds_doneP, VC.holds_done, VC.holds_either, VC.holds_call, VC.holds_callE, VC.holds_lend, VC.holds_stop, VC.holds_fail, decide_eq_true_eq, decide_eq_false_iff_not]
  refine ⟨c_ixI _ _ _ _ (by omega), ?_⟩
  rw [path_on]; simp
/-! ### the program's closures -/
abbrev BX (i : Int) : Ob := .box [AI i]
def in_mv1 (b : Blk) (i : Int) := (G0, res135, [(0, BX i)], [Item.ir ir135], start [BA b, .adr 0 0] [(0, BX i)])
theorem ev_mv1 : ∀ (b : Blk) (i : Int), ev G0 res135 [((0 : Nat), BX i)] (3000 : Nat) (Or.call [] (AV.own (0 : Nat)) [((0 : Nat), Ob.row Mode.u true (1 : Nat) (3 : Nat) (PA b.l) [])] (Or.call [] (AB (onB b.l i)) [] Or.nil)) [Item.ir ir135] (start [BA b, AV.adr (0 : Nat) (0 : Nat)] [((0 : Nat), BX i)]) = VC.call (62 : Nat) [AV.p true (PV.v (Value.int IntKind.i64 b.l))] [] (AV.own (0 : Nat)) [((0 : Nat), Ob.row Mode.u true (1 : Nat) (3 : Nat) (PA b.l) [])] (VC.call (136 : Nat) [AV.p false (PV.sl true (1 : Nat) (3 : Nat) (PA b.l)), AV.p true (PV.v (Value.int IntKind.i64 i))] [] (AB (onB b.l i)) [] (VC.done (St.mk [((0 : Nat), AV.ag [AV.p true (PV.v (Value.int IntKind.i64 b.a)), AV.p true (PV.v (Value.int IntKind.i64 b.v)), AV.p true (PV.v (Value.int IntKind.i64 b.l))]), ((1 : Nat), AV.adr (100000 : Nat) (0 : Nat)), ((2 : Nat), AV.adr (2 : Nat) (0 : Nat)), ((3 : Nat), AV.p true (PV.v (Value.bool !onB b.l i)))] [((100000 : Nat), Ob.box [AV.p true (PV.v (Value.int IntKind.i64 i))]), ((2 : Nat), Ob.box [AV.p true (PV.v (Value.int IntKind.i64 b.a)), AV.p true (PV.v (Value.int IntKind.i64 b.v)), AV.p true (PV.v (Value.int IntKind.i64 b.l))])]))) := by intros; kernel_rfl
theorem c_mv1 (b : Blk) (i : Int) (hb : 0 ≤ b.l ∧ b.l ≤ 3) : PObj Tryd.prog G0 135 [BA b, .adr 0 0] [(0, BX i)] (AB (!onB b.l i)) [(0, BX i)] := by
  refine PObj.by chk135 rfl (ev_mv1 b i) ?_
  simp only [VC.holds_split, VC.holds_need, VC.holds_doneP, VC.holds_done, VC.holds_either, VC.holds_call, VC.holds_callE, VC.holds_lend, VC.holds_stop, VC.holds_fail, decide_eq_true_eq, decide_eq_false_iff_not]
  refine ⟨c_path _ hb, c_coP _ _, ResOk.mk [] [(0, 100000)] [] _ _ ?_ ⟨rfl, rfl⟩⟩
  simp [doneC, resOf, resAV, tup, pinR, PV.Le_self, hbs, St.lowers, St.lower, stLe, leEnv, leObs, obLe, injB, pinC, AV.leC, AV.leCs, PV.leC, PV.Le_v, St.get, St.obj, look, rho, isNew, keptC, renH, Mode.ok, Mode.isZ, PV.isVal, PV.isNilSl, List.all_nil, List.all_cons, List.any_nil, List.any_cons, List.map_nil, List.map_cons, res135]
def in_bl1 (b : Blk) (i : Int) := (G0, res167, [(0, BX i)], [Item.ir ir167], start [BA b, .adr 0 0] [(0, BX i)])
theorem ev_bl1 : ∀ (b : Blk) (i : Int), ev G0 res167 [((0 : Nat), BX i)] (3000 : Nat) Or.nil [Item.ir ir167] (start [BA b, AV.adr (0 : Nat) (0 : Nat)] [((0 : Nat), BX i)]) = VC.done (St.mk [((0 : Nat), AV.ag [AV.p true (PV.v (Value.int IntKind.i64 b.a)), AV.p true (PV.v (Value.int IntKind.i64 b.v)), AV.p true (PV.v (Value.int IntKind.i64 b.l))]), ((1 : Nat), AV.adr (100000 : Nat) (0 : Nat)), ((2 : Nat), AV.adr (2 : Nat) (0 : Nat)), ((3 : Nat), AV.p true (PV.v (Value.bool (b.a == i))))] [((100000 : Nat), Ob.box [AV.p true (PV.v (Value.int IntKind.i64 i))]), ((2 : Nat), Ob.box [AV.p true (PV.v (Value.int IntKind.i64 b.a)), AV.p true (PV.v (Value.int IntKind.i64 b.v)), AV.p true (PV.v (Value.int IntKind.i64 b.l))])]) := by intros; kernel_rfl
theorem c_bl1 (b : Blk) (i : Int) : PObj Tryd.prog G0 167 [BA b, .adr 0 0] [(0, BX i)] (AB (b.a == i)) [(0, BX i)] := by
  refine PObj.by chk167 rfl (ev_bl1 b i) ?_
  simp only [VC.holds_split, VC.holds_need, VC.holds_doneP, VC.holds_done, VC.holds_either, VC.holds_call, VC.holds_callE, VC.holds_lend, VC.holds_stop, VC.holds_fail, decide_eq_true_eq, decide_eq_false_iff_not]
  refine ResOk.mk [] [(0, 100000)] [] _ _ ?_ ⟨rfl, rfl⟩
  simp [doneC, resOf, resAV, tup, pinR, PV.Le_self, hbs, St.lowers, St.lower, stLe, leEnv, leObs, obLe, injB, pinC, AV.leC, AV.leCs, PV.leC, PV.Le_v, St.get, St.obj, look, rho, isNew, keptC, renH, Mode.ok, Mode.isZ, PV.isVal, PV.isNilSl, List.all_nil, List.all_cons, List.any_nil, List.any_cons, List.map_nil, List.map_cons, res167]
end Go.Gw
