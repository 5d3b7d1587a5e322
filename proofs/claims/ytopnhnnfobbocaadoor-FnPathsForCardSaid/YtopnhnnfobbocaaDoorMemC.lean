/- Memories: copies, and leaves; with no condition. -/
import Derived.Test.YtopnhnnfobbocaaDoorMemEq
import Derived.KernelRfl
namespace Go.Gw
open Go Go.Proofs
set_option linter.unusedSimpArgs false
set_option linter.unusedVariables false
set_option maxRecDepth 100000
def ir67_L1 : Ir :=
  (.seq
  (.reg [] [o 14 (.bin .lss (tt 13) (tt 12))])
  (.seq
  (.cond (tt 14)
   .skip
   (.exit 0))
  (.seq
  (.block 1
   (.seq
   (.reg [15, 16] [o 15 (.idx 1 (tt 11) (tt 13)),
     o 16 (.load false 1 (tt 15)),
     o 5 (.mov (tt 16))])
   (.dreg [17, 18, 19, 20, 21, 22, 23] [0, 1, 0, 4, 12, 31, 63, 127] [(1, 1018), (3, 20), (4, 21), (5, 22)] [o 17 (.fadr 0 (tt 3)),
     o 18 (.load false 1 (tt 17)),
     o 19 (.mov (tt 5)),
     o 20 (.app 3 24 true (.const (.slice none 0 0)) (tt 19)),
     o 21 (.mkSl 1 1 [(.slice none 0 0)] [(0, (tt 20))]),
     o 22 (.app 1 24 false (tt 18) (tt 21)),
     o 23 (.fadr 0 (tt 3)),
     on (.store 1 (tt 23) (tt 22))])))
  (.reg [24] [o 24 (.bin .add (tt 13) (ci 1)),
    o 13 (.mov (tt 24))]))))
def ir67_T2 : Ir :=
  (.seq
  (.reg [25] [o 25 (.load true 2 (tt 3)),
    on (.store 2 (tt 2) (tt 25))])
  .ret)
def ir67 : Ir :=
  (.seq
  (.reg [] [o 1 (.box 2 (tt 0)),
    o 2 (.alloc [(.slice none 0 0), (.slice none 0 0)])])
  (.seq
  (.reg [6, 7, 8, 9] [o 6 (.fadr 1 (tt 1)),
    o 7 (.load false 1 (tt 6)),
    o 8 (.app 3 24 true (.const (.slice none 0 0)) (tt 7)),
    o 9 (.build [(.slice none 0 0), (.slice none 0 0)] [(1, 1, (tt 8))]),
    o 3 (.alloc [(.slice none 0 0), (.slice none 0 0)]),
    on (.store 2 (tt 3) (tt 9))])
  (.seq
  (.seq
  (.reg [10] [o 10 (.fadr 0 (tt 1)),
    o 11 (.load false 1 (tt 10)),
    o 12 (.len (tt 11)),
    o 13 (.mov (ci 0))])
  (.block 0
   (.loop ir67_L1)))
  ir67_T2)))
def keep67 : List Nat := [0, 1, 2, 3, 5, 11, 12, 13, 14]
def res67 : List RI := [.cell true 2 2]
theorem chk67 : chk Tryd.prog 67 1 keep67 = some (ir67, res67) := by kernel_rfl
def ir180_L1 : Ir :=
  (.seq
  (.seq
  (.reg [10, 11, 12, 13] [o 10 (.mov (tt 4)),
    o 11 (.fadr 0 (tt 1)),
    o 12 (.load false 1 (tt 11)),
    o 13 (.len (tt 12)),
    o 14 (.bin .lss (tt 10) (tt 13))])
  (.cond (tt 14)
   .skip
   (.exit 0)))
  (.seq
  (.block 1
   (.dreg [17, 18, 19, 20, 21, 22, 23, 24, 25, 26, 27, 28] [0, 1, 0, 0, 8, 0, 56, 120, 252, 508, 1023, 2047, 4095] [(1, 1018), (2, 19), (4, 1021), (7, 1024), (8, 25), (9, 26), (10, 27)] [o 17 (.fadr 0 (tt 3)),
     o 18 (.load false 1 (tt 17)),
     o 19 (.mkSl 3 0 [(.int .i64 0), (.int .i64 0), (.int .i64 0)] []),
     o 20 (.fadr 0 (tt 1)),
     o 21 (.load false 1 (tt 20)),
     o 22 (.mov (tt 4)),
     o 23 (.idx 1 (tt 21) (tt 22)),
     o 24 (.load false 1 (tt 23)),
     o 25 (.app 3 24 true (tt 19) (tt 24)),
     o 26 (.mkSl 1 1 [(.slice none 0 0)] [(0, (tt 25))]),
     o 27 (.app 1 24 false (tt 18) (tt 26)),
     o 28 (.fadr 0 (tt 3)),
     on (.store 1 (tt 28) (tt 27))]))
  (.reg [15, 16] [o 15 (.mov (tt 4)),
    o 16 (.bin .add (tt 15) (ci 1)),
    o 4 (.mov (tt 16))])))
def ir180_T2 : Ir :=
  (.seq
  (.reg [29] [o 29 (.load true 2 (tt 3)),
    on (.store 2 (tt 2) (tt 29))])
  .ret)
def ir180 : Ir :=
  (.seq
  (.reg [] [o 1 (.box 2 (tt 0)),
    o 2 (.alloc [(.slice none 0 0), (.slice none 0 0)])])
  (.seq
  (.reg [5, 6, 7, 8, 9] [o 5 (.mkSl 3 0 [(.int .i64 0), (.int .i64 0), (.int .i64 0)] []),
    o 6 (.fadr 1 (tt 1)),
    o 7 (.load false 1 (tt 6)),
    o 8 (.app 3 24 true (tt 5) (tt 7)),
    o 9 (.build [(.slice none 0 0), (.slice none 0 0)] [(1, 1, (tt 8))]),
    o 3 (.alloc [(.slice none 0 0), (.slice none 0 0)]),
    on (.store 2 (tt 3) (tt 9))])
  (.seq
  (.seq
  (.reg [] [o 4 (.mov (ci 0))])
  (.block 0
   (.loop ir180_L1)))
  ir180_T2)))
def keep180 : List Nat := [0, 1, 2, 3, 4, 14]
def res180 : List RI := [.cell true 2 2]
theorem chk180 : chk Tryd.prog 180 1 keep180 = some (ir180, res180) := by kernel_rfl

abbrev meR : AV := .ag [.own 0, .own 1]
abbrev meH (T : List (List Blk)) (S : List Blk) : List (Nat × Ob) := [(0, .row .u false 1 T.length (BB T) []), (1, .row .u false 3 S.length (SB S) [])]
theorem BB_le {T T' : List (List Blk)} {i j c : Nat} (h : T.getD i [] = T'.getD j []) : PV.Le (BB T i c) (BB T' j c) := by simp only [BB, h]; exact .refl _
theorem BB_le1 {X : List Blk} {T : List (List Blk)} {j c n : Nat} {nn : Bool} {g : Nat → Nat → PV} (h : T.getD j [] = X) (hn : n = X.length) (hg : ∀ i k, i < n → k < 3 → PV.Le (g i k) (SB X i k)) : PV.Le (.sl nn 3 n g) (BB T j c) := by
  subst hn
  simp only [BB, h]
  exact .sl _ _ (fun e => (by cases e)) 3 _ _ _ _ rfl hg
theorem len_fl {T : List (List Blk)} {i : Nat} (hi : i < T.length) : (T.getD i []).length ≤ T.flatten.length := by
  have h1 := flat_le T (i + 1)
  rw [take_flat hi, List.length_append] at h1
  omega
theorem take_get {α : Type} {d : α} {T : List α} {k i : Nat} (h : i < k) : (T.take k).getD i d = T.getD i d := by
  simp only [List.getD_eq_getElem?_getD, List.getElem?_take, h, if_true]
def in_cl (T : List (List Blk)) (S : List Blk) := (G0, res67, ([] : List (Nat × Ob)), [Item.ir ir67], start [ME T S] [])
theorem ev_cl : ∀ (T : List (List Blk)) (S : List Blk), ev G0 res67 [] (3000 : Nat) Or.nil [Item.ir ir67] (start [ME T S] []) = VC.need ((S.length * (24 : Nat) ≤ (140737488355328 : Nat) ∧ (↑S.length : Int) ≤ (9223372036854775807 : Int)) ∧ allV (3 : Nat) S.length (SB S)) (VC.loop ir67_L1 [Item.bend (0 : Nat), Item.ir ir67_T2] (St.mk [((0 : Nat), AV.ag [AV.p false (PV.sl false (1 : Nat) T.length (BB T)), AV.p false (PV.sl false (3 : Nat) S.length (SB S))]), ((1 : Nat), AV.adr (1 : Nat) (0 : Nat)), ((2 : Nat), AV.adr (2 : Nat) (0 : Nat)), ((3 : Nat), AV.adr (3 : Nat) (0 : Nat)), ((11 : Nat), AV.p false (PV.sl false (1 : Nat) T.length (BB T))), ((12 : Nat), AV.p true (PV.v (Value.int IntKind.i64 (↑T.length : Int)))), ((13 : Nat), AV.p true (PV.v (Value.int IntKind.i64 (0 : Int))))] [((1 : Nat), Ob.box [AV.p false (PV.sl false (1 : Nat) T.length (BB T)), AV.p false (PV.sl false (3 : Nat) S.length (SB S))]), ((2 : Nat), Ob.box [AV.p true (PV.v (Value.slice none (0 : Nat) (0 : Nat))), AV.p true (PV.v (Value.slice none (0 : Nat) (0 : Nat)))]), ((8 : Nat), Ob.row Mode.u false (3 : Nat) S.length (SB S) []), ((3 : Nat), Ob.box [AV.p true (PV.v (Value.slice none (0 : Nat) (0 : Nat))), AV.own (8 : Nat)])])) := by intros; kernel_rfl
def in_cM (T : List (List Blk)) (S : List Blk) := (G0, res180, ([] : List (Nat × Ob)), [Item.ir ir180], start [ME T S] [])
theorem ev_cM : ∀ (T : List (List Blk)) (S : List Blk), ev G0 res180 [] (3000 : Nat) Or.nil [Item.ir ir180] (start [ME T S] []) = VC.need ((((0 : Nat) + S.length) * (24 : Nat) ≤ (140737488355328 : Nat) ∧ (↑((0 : Nat) + S.length) : Int) ≤ (9223372036854775807 : Int)) ∧ allV (3 : Nat) S.length (SB S)) (VC.loop ir180_L1 [Item.bend (0 : Nat), Item.ir ir180_T2] (St.mk [((0 : Nat), AV.ag [AV.p false (PV.sl false (1 : Nat) T.length (BB T)), AV.p false (PV.sl false (3 : Nat) S.length (SB S))]), ((1 : Nat), AV.adr (1 : Nat) (0 : Nat)), ((2 : Nat), AV.adr (2 : Nat) (0 : Nat)), ((3 : Nat), AV.adr (3 : Nat) (0 : Nat)), ((4 : Nat), AV.p true (PV.v (Value.int IntKind.i64 (0 : Int))))] [((1 : Nat), Ob.box [AV.p false (PV.sl false (1 : Nat) T.length (BB T)), AV.p false (PV.sl false (3 : Nat) S.length (SB S))]), ((2 : Nat), Ob.box [AV.p true (PV.v (Value.slice none (0 : Nat) (0 : Nat))), AV.p true (PV.v (Value.slice none (0 : Nat) (0 : Nat)))]), ((8 : Nat), Ob.row Mode.u true (3 : Nat) ((0 : Nat) + S.length) (fun (a b : Nat) => if a < (0 : Nat) then setG [] (fun (x j : Nat) => PV.v ([Value.int IntKind.i64 (0 : Int), Value.int IntKind.i64 (0 : Int), Value.int IntKind.i64 (0 : Int)].getD j undef)) a b else SB S (a - (0 : Nat)) b) []), ((3 : Nat), Ob.box [AV.p true (PV.v (Value.slice none (0 : Nat) (0 : Nat))), AV.own (8 : Nat)])])) := by intros; kernel_rfl
def st_cl (T : List (List Blk)) (S : List Blk) (k : Nat) : St := ⟨[(2, .adr 2 0), (3, .adr 3 0), (11, BL false T), (12, AI T.length), (13, AI k)], [(2, .box [.p true (.v (.slice none 0 0)), .p true (.v (.slice none 0 0))]), (3, .box [.own 7, .own 8]), (7, .row .u false 1 k (BB T) []), (8, .row .u false 3 S.length (SB S) [])]⟩
def r_cl (T : List (List Blk)) (S : List Blk) (I : Nat → St → Prop) (k : Nat) := (G0, res67, ([] : List (Nat × Ob)), [Item.ir ir67_L1, .lend (I k), Item.bend 0, Item.ir ir67_T2], st_cl T S k)
theorem evr_cl : ∀ (T : List (List Blk)) (S : List Blk) (I : Nat → St → Prop) (k : Nat), ev G0 res67 [] (3000 : Nat) (Or.nil.split Or.nil) [Item.ir ir67_L1, Item.lend (I k), Item.bend (0 : Nat), Item.ir ir67_T2] (st_cl T S k) = VC.split (decide ((↑k : Int) < (↑T.length : Int))) (VC.need ((0 : Int) ≤ (↑k : Int) ∧ (↑k : Int).toNat < T.length) (VC.need (((T.getD (↑k : Int).toNat []).length * (24 : Nat) ≤ (140737488355328 : Nat) ∧ (↑(T.getD (↑k : Int).toNat []).length : Int) ≤ (9223372036854775807 : Int)) ∧ allV (3 : Nat) (T.getD (↑k : Int).toNat []).length (SB (T.getD (↑k : Int).toNat []))) (VC.need (((k + (1 : Nat)) * (24 : Nat) ≤ (140737488355328 : Nat) ∧ (↑(k + (1 : Nat)) : Int) ≤ (9223372036854775807 : Int)) ∧ allOne (1 : Nat) (1 : Nat) (setG [((0 : Nat), (0 : Nat), PV.sl false (3 : Nat) (T.getD (↑k : Int).toNat []).length (SB (T.getD (↑k : Int).toNat [])))] fun (x j : Nat) => PV.v ([Value.slice none (0 : Nat) (0 : Nat)].getD j undef))) (VC.lend (I k) (St.mk [((2 : Nat), AV.adr (2 : Nat) (0 : Nat)), ((3 : Nat), AV.adr (3 : Nat) (0 : Nat)), ((11 : Nat), AV.p false (PV.sl false (1 : Nat) T.length (BB T))), ((12 : Nat), AV.p true (PV.v (Value.int IntKind.i64 (↑T.length : Int)))), ((13 : Nat), AV.p true (PV.v (Value.int IntKind.i64 (IntKind.i64.wrap ((↑k : Int) + (1 : Int)))))), ((14 : Nat), AV.p true (PV.v (Value.bool (decide ((↑k : Int) < (↑T.length : Int)))))), ((5 : Nat), AV.p false (PV.sl false (3 : Nat) (T.getD (↑k : Int).toNat []).length (SB (T.getD (↑k : Int).toNat []))))] [((2 : Nat), Ob.box [AV.p true (PV.v (Value.slice none (0 : Nat) (0 : Nat))), AV.p true (PV.v (Value.slice none (0 : Nat) (0 : Nat)))]), ((3 : Nat), Ob.box [AV.own (22 : Nat), AV.own (8 : Nat)]), ((8 : Nat), Ob.row Mode.u false (3 : Nat) S.length (SB S) []), ((22 : Nat), Ob.row Mode.u false (1 : Nat) (k + (1 : Nat)) (fun (a b : Nat) => if a < k then BB T a b else setG [((0 : Nat), (0 : Nat), PV.sl false (3 : Nat) (T.getD (↑k : Int).toNat []).length (SB (T.getD (↑k : Int).toNat [])))] (fun (x j : Nat) => PV.v ([Value.slice none (0 : Nat) (0 : Nat)].getD j undef)) (a - k) b) [])]))))) (VC.done (St.mk [((2 : Nat), AV.adr (2 : Nat) (0 : Nat)), ((3 : Nat), AV.adr (3 : Nat) (0 : Nat)), ((11 : Nat), AV.p false (PV.sl false (1 : Nat) T.length (BB T))), ((12 : Nat), AV.p true (PV.v (Value.int IntKind.i64 (↑T.length : Int)))), ((13 : Nat), AV.p true (PV.v (Value.int IntKind.i64 (↑k : Int)))), ((14 : Nat), AV.p true (PV.v (Value.bool (decide ((↑k : Int) < (↑T.length : Int))))))] [((2 : Nat), Ob.box [AV.own (7 : Nat), AV.own (8 : Nat)]), ((3 : Nat), Ob.box [AV.own (7 : Nat), AV.own (8 : Nat)]), ((7 : Nat), Ob.row Mode.u false (1 : Nat) k (BB T) []), ((8 : Nat), Ob.row Mode.u false (3 : Nat) S.length (SB S) [])])) := by intros; kernel_rfl
theorem c_cl (T : List (List Blk)) (S : List Blk) (hT : T.length ≤ 1048576) (hS : S.length + T.flatten.length ≤ 1048576) : PObj Tryd.prog G0 67 [ME T S] [] meR (meH T S) := by
  refine PObj.by chk67 rfl (ev_cl T S) ?_
  simp only [VC.holds_split, VC.holds_need, VC.holds_doneP, VC.holds_done, VC.holds_either, VC.holds_call, VC.holds_callE, VC.holds_lend, VC.holds_stop, VC.holds_fail, decide_eq_true_eq, decide_eq_false_iff_not]
  refine ⟨⟨⟨by omega, by omega⟩, allV_SB⟩, loop_by (st_cl T S) (fun k => k ≤ T.length) (fun k => T.length - k) 0 [] [] [7] (Nat.zero_le _) ?_ (evr_cl T S) fun k hk => ?_⟩
  · simp [st_cl, hbs, St.lowers, St.lower, stLe, leEnv, leObs, obLe, injB, pinC, AV.leC, AV.leCs, PV.leC, PV.Le_v, St.get, St.obj, look, rho, isNew, keptC, renH, Mode.ok, Mode.isZ, PV.isVal, PV.isNilSl, List.all_nil, List.all_cons, List.any_nil, List.any_cons, List.map_nil, List.map_cons, PV.Le_self]
  · have ek : IntKind.i64.wrap ((k : Int) + 1) = ((k + 1 : Nat) : Int) := wrap_in (by omega) (by omega)
    simp only [VC.holds_split, VC.holds_need, VC.holds_doneP, VC.holds_done, VC.holds_either, VC.holds_call, VC.holds_callE, VC.holds_lend, VC.holds_stop, VC.holds_fail, decide_eq_true_eq, decide_eq_false_iff_not, Int.toNat_natCast, Nat.zero_add]
    refine ⟨fun h0 => ?_, fun h0 => ?_⟩
    · have hkT : k < T.length := by omega
      have b1 := len_fl hkT
      refine ⟨⟨by omega, by omega⟩, ⟨⟨by omega, by omega⟩, allV_SB⟩, ⟨⟨by omega, by omega⟩, ?_⟩, Again.mk (k + 1) [] [(7, 22)] [] (by omega) (by omega) ?_⟩
      · intro i j hi hj
        obtain rfl : i = 0 := by omega
        obtain rfl : j = 0 := by omega
        rfl
      · simp [st_cl, hbs, St.lowers, St.lower, stLe, leEnv, leObs, obLe, injB, pinC, AV.leC, AV.leCs, PV.leC, PV.Le_v, St.get, St.obj, look, rho, isNew, keptC, renH, Mode.ok, Mode.isZ, PV.isVal, PV.isNilSl, List.all_nil, List.all_cons, List.any_nil, List.any_cons, List.map_nil, List.map_cons, PV.Le_self, ek]
        intro i hi
        by_cases h1 : i < k
        · simp [h1]; exact BB_le rfl
        · obtain rfl : i = k := by omega
          simp [setG, cellSet]
          refine BB_le1 rfl (by simp) fun a c ha hc => ?_
          simp; exact .refl _
    · have : k = T.length := by omega
      subst this
      refine ResOk.mk [] [(0, 7), (1, 8)] [] _ _ ?_ ⟨rfl, rfl⟩
      simp [doneC, resOf, resAV, tup, pinR, PV.Le_self, hbs, St.lowers, St.lower, stLe, leEnv, leObs, obLe, injB, pinC, AV.leC, AV.leCs, PV.leC, PV.Le_v, St.get, St.obj, look, rho, isNew, keptC, renH, Mode.ok, Mode.isZ, PV.isVal, PV.isNilSl, List.all_nil, List.all_cons, List.any_nil, List.any_cons, List.map_nil, List.map_cons, res67]
def st_cM (T : List (List Blk)) (S : List Blk) (k : Nat) : St := ⟨[(1, .adr 1 0), (2, .adr 2 0), (3, .adr 3 0), (4, AI k)], [(1, MBX T S), (2, .box [.p true (.v (.slice none 0 0)), .p true (.v (.slice none 0 0))]), (3, .box [.own 7, .own 8]), (7, .row .u false 1 k (BB T) []), (8, .row .u false 3 S.length (SB S) [])]⟩
def r_cM (T : List (List Blk)) (S : List Blk) (I : Nat → St → Prop) (k : Nat) := (G0, res180, ([] : List (Nat × Ob)), [Item.ir ir180_L1, .lend (I k), Item.bend 0, Item.ir ir180_T2], st_cM T S k)
theorem evr_cM : ∀ (T : List (List Blk)) (S : List Blk) (I : Nat → St → Prop) (k : Nat), ev G0 res180 [] (3000 : Nat) (Or.nil.split Or.nil) [Item.ir ir180_L1, Item.lend (I k), Item.bend (0 : Nat), Item.ir ir180_T2] (st_cM T S k) = VC.split (decide ((↑k : Int) < (↑T.length : Int))) (VC.need ((0 : Int) ≤ (↑k : Int) ∧ (↑k : Int).toNat < T.length) (VC.need ((((0 : Nat) + (T.getD (↑k : Int).toNat []).length) * (24 : Nat) ≤ (140737488355328 : Nat) ∧ (↑((0 : Nat) + (T.getD (↑k : Int).toNat []).length) : Int) ≤ (9223372036854775807 : Int)) ∧ allV (3 : Nat) (T.getD (↑k : Int).toNat []).length (SB (T.getD (↑k : Int).toNat []))) (VC.need (((k + (1 : Nat)) * (24 : Nat) ≤ (140737488355328 : Nat) ∧ (↑(k + (1 : Nat)) : Int) ≤ (9223372036854775807 : Int)) ∧ allOne (1 : Nat) (1 : Nat) (setG [((0 : Nat), (0 : Nat), PV.sl true (3 : Nat) ((0 : Nat) + (T.getD (↑k : Int).toNat []).length) fun (a b : Nat) => if a < (0 : Nat) then setG [] (fun (x j : Nat) => PV.v ([Value.int IntKind.i64 (0 : Int), Value.int IntKind.i64 (0 : Int), Value.int IntKind.i64 (0 : Int)].getD j undef)) a b else SB (T.getD (↑k : Int).toNat []) (a - (0 : Nat)) b)] fun (x j : Nat) => PV.v ([Value.slice none (0 : Nat) (0 : Nat)].getD j undef))) (VC.lend (I k) (St.mk [((1 : Nat), AV.adr (1 : Nat) (0 : Nat)), ((2 : Nat), AV.adr (2 : Nat) (0 : Nat)), ((3 : Nat), AV.adr (3 : Nat) (0 : Nat)), ((4 : Nat), AV.p true (PV.v (Value.int IntKind.i64 (IntKind.i64.wrap ((↑k : Int) + (1 : Int)))))), ((14 : Nat), AV.p true (PV.v (Value.bool (decide ((↑k : Int) < (↑T.length : Int))))))] [((1 : Nat), Ob.box [AV.p false (PV.sl false (1 : Nat) T.length (BB T)), AV.p false (PV.sl false (3 : Nat) S.length (SB S))]), ((2 : Nat), Ob.box [AV.p true (PV.v (Value.slice none (0 : Nat) (0 : Nat))), AV.p true (PV.v (Value.slice none (0 : Nat) (0 : Nat)))]), ((3 : Nat), Ob.box [AV.own (27 : Nat), AV.own (8 : Nat)]), ((8 : Nat), Ob.row Mode.u false (3 : Nat) S.length (SB S) []), ((27 : Nat), Ob.row Mode.u false (1 : Nat) (k + (1 : Nat)) (fun (a b : Nat) => if a < k then BB T a b else setG [((0 : Nat), (0 : Nat), PV.sl true (3 : Nat) ((0 : Nat) + (T.getD (↑k : Int).toNat []).length) fun (a_1 b_1 : Nat) => if a_1 < (0 : Nat) then setG [] (fun (x j : Nat) => PV.v ([Value.int IntKind.i64 (0 : Int), Value.int IntKind.i64 (0 : Int), Value.int IntKind.i64 (0 : Int)].getD j undef)) a_1 b_1 else SB (T.getD (↑k : Int).toNat []) (a_1 - (0 : Nat)) b_1)] (fun (x j : Nat) => PV.v ([Value.slice none (0 : Nat) (0 : Nat)].getD j undef)) (a - k) b) [])]))))) (VC.done (St.mk [((1 : Nat), AV.adr (1 : Nat) (0 : Nat)), ((2 : Nat), AV.adr (2 : Nat) (0 : Nat)), ((3 : Nat), AV.adr (3 : Nat) (0 : Nat)), ((4 : Nat), AV.p true (PV.v (Value.int IntKind.i64 (↑k : Int)))), ((14 : Nat), AV.p true (PV.v (Value.bool (decide ((↑k : Int) < (↑T.length : Int))))))] [((1 : Nat), Ob.box [AV.p false (PV.sl false (1 : Nat) T.length (BB T)), AV.p false (PV.sl false (3 : Nat) S.length (SB S))]), ((2 : Nat), Ob.box [AV.own (7 : Nat), AV.own (8 : Nat)]), ((3 : Nat), Ob.box [AV.own (7 : Nat), AV.own (8 : Nat)]), ((7 : Nat), Ob.row Mode.u false (1 : Nat) k (BB T) []), ((8 : Nat), Ob.row Mode.u false (3 : Nat) S.length (SB S) [])])) := by intros; kernel_rfl
theorem c_cM (T : List (List Blk)) (S : List Blk) (hT : T.length ≤ 1048576) (hS : S.length + T.flatten.length ≤ 1048576) : PObj Tryd.prog G0 180 [ME T S] [] meR (meH T S) := by
  refine PObj.by chk180 rfl (ev_cM T S) ?_
  simp only [VC.holds_split, VC.holds_need, VC.holds_doneP, VC.holds_done, VC.holds_either, VC.holds_call, VC.holds_callE, VC.holds_lend, VC.holds_stop, VC.holds_fail, decide_eq_true_eq, decide_eq_false_iff_not]
  refine ⟨⟨⟨by omega, by omega⟩, allV_SB⟩, loop_by (st_cM T S) (fun k => k ≤ T.length) (fun k => T.length - k) 0 [] [] [7] (Nat.zero_le _) ?_ (evr_cM T S) fun k hk => ?_⟩
  · simp [st_cM, hbs, St.lowers, St.lower, stLe, leEnv, leObs, obLe, injB, pinC, AV.leC, AV.leCs, PV.leC, PV.Le_v, St.get, St.obj, look, rho, isNew, keptC, renH, Mode.ok, Mode.isZ, PV.isVal, PV.isNilSl, List.all_nil, List.all_cons, List.any_nil, List.any_cons, List.map_nil, List.map_cons, PV.Le_self]
  · have ek : IntKind.i64.wrap ((k : Int) + 1) = ((k + 1 : Nat) : Int) := wrap_in (by omega) (by omega)
    simp only [VC.holds_split, VC.holds_need, VC.holds_doneP, VC.holds_done, VC.holds_either, VC.holds_call, VC.holds_callE, VC.holds_lend, VC.holds_stop, VC.holds_fail, decide_eq_true_eq, decide_eq_false_iff_not, Int.toNat_natCast, Nat.zero_add]
    refine ⟨fun h0 => ?_, fun h0 => ?_⟩
    · have hkT : k < T.length := by omega
      have b1 := len_fl hkT
      refine ⟨⟨by omega, by omega⟩, ⟨⟨by omega, by omega⟩, allV_SB⟩, ⟨⟨by omega, by omega⟩, ?_⟩, Again.mk (k + 1) [] [(7, 27)] [] (by omega) (by omega) ?_⟩
      · intro i j hi hj
        obtain rfl : i = 0 := by omega
        obtain rfl : j = 0 := by omega
        rfl
      · simp [st_cM, hbs, St.lowers, St.lower, stLe, leEnv, leObs, obLe, injB, pinC, AV.leC, AV.leCs, PV.leC, PV.Le_v, St.get, St.obj, look, rho, isNew, keptC, renH, Mode.ok, Mode.isZ, PV.isVal, PV.isNilSl, List.all_nil, List.all_cons, List.any_nil, List.any_cons, List.map_nil, List.map_cons, PV.Le_self, ek]
        intro i hi
        by_cases h1 : i < k
        · simp [h1]; exact BB_le rfl
        · obtain rfl : i = k := by omega
          simp [setG, cellSet]
          refine BB_le1 rfl (by simp) fun a c ha hc => ?_
          simp; exact .refl _
    · have : k = T.length := by omega
      subst this
      refine ResOk.mk [] [(0, 7), (1, 8)] [] _ _ ?_ ⟨rfl, rfl⟩
      simp [doneC, resOf, resAV, tup, pinR, PV.Le_self, hbs, St.lowers, St.lower, stLe, leEnv, leObs, obLe, injB, pinC, AV.leC, AV.leCs, PV.leC, PV.Le_v, St.get, St.obj, look, rho, isNew, keptC, renH, Mode.ok, Mode.isZ, PV.isVal, PV.isNilSl, List.all_nil, List.all_cons, List.any_nil, List.any_cons, List.map_nil, List.map_cons, res180]
end Go.Gw
