/- Memories: which are valid; with no condition. -/
import Derived.Test.YtopnhnnfobbocaaDoorMemV
import Derived.KernelRfl
namespace Go.Gw
open Go Go.Proofs
set_option linter.unusedSimpArgs false
set_option linter.unusedVariables false
set_option maxRecDepth 100000
def ir165_L1 : Ir :=
  (.seq
  (.reg [] [o 9 (.bin .lss (tt 8) (tt 7))])
  (.seq
  (.cond (tt 9)
   .skip
   (.exit 0))
  (.seq
  (.block 1
   (.seq
   (.reg [10] [o 10 (.mov (tt 8)),
     o 5 (.mov (tt 10))])
   (.seq
   (.reg [11, 12, 13, 14, 15] [o 11 (.mov (tt 1)),
     o 12 (.mov (tt 0)),
     o 13 (.mov (tt 5)),
     o 14 (.idx 3 (tt 12) (tt 13)),
     o 15 (.load true 3 (tt 14)),
     o 16 (.callv (tt 11) [(tt 15)])])
   (.cond (tt 16)
    (.seq
    (.reg [17] [o 17 (.mov (tt 5)),
      o 4 (.mov (tt 17))])
    .ret)
    .skip))))
  (.reg [18] [o 18 (.bin .add (tt 8) (ci 1)),
    o 8 (.mov (tt 18))]))))
def ir165_T2 : Ir :=
  (.seq
  (.reg [] [o 4 (.mov (ci (-1)))])
  .ret)
def ir165 : Ir :=
  (.seq
  (.reg [] [o 4 (.mov (ci 0))])
  (.seq
  (.seq
  (.reg [6] [o 6 (.mov (tt 0)),
    o 7 (.len (tt 6)),
    o 8 (.mov (ci 0))])
  (.block 0
   (.loop ir165_L1)))
  ir165_T2))
def keep165 : List Nat := [0, 1, 4, 5, 7, 8, 9, 16]
def res165 : List RI := [.tmp 4]
theorem chk165 : chk Tryd.prog 165 2 keep165 = some (ir165, res165) := by kernel_rfl
def ir134 : Ir :=
  (.seq
  (.reg [] [o 4 (.mov (cb false))])
  (.seq
  (.reg [5, 6, 7, 8] [o 5 (.mov (tt 0)),
    o 6 (.mov (tt 1)),
    o 7 (.call 165 [(tt 5), (tt 6)]),
    o 8 (.bin .geq (tt 7) (ci 0)),
    o 4 (.mov (tt 8))])
  .ret))
def keep134 : List Nat := [0, 1, 4]
def res134 : List RI := [.tmp 4]
theorem chk134 : chk Tryd.prog 134 2 keep134 = some (ir134, res134) := by kernel_rfl
def ir138 : Ir :=
  (.seq
  (.reg [] [o 2 (.box 2 (tt 0)),
    o 3 (.box 1 (tt 1)),
    o 4 (.alloc [(.int .i64 0), (.int .i64 0), (.int .i64 0)])])
  (.seq
  (.reg [6, 7] [o 6 (.load true 2 (tt 2)),
    o 7 (.call 59 [(tt 6)]),
    o 5 (.mov (tt 7))])
  (.seq
  (.reg [8, 9, 10, 11, 12, 13] [o 8 (.mov (tt 5)),
    o 9 (.mov (tt 5)),
    o 10 (.mkFn 167 [] [(tt 3)]),
    o 11 (.call 165 [(tt 9), (tt 10)]),
    o 12 (.idx 3 (tt 8) (tt 11)),
    o 13 (.load true 3 (tt 12)),
    on (.store 3 (tt 4) (tt 13))])
  .ret)))
def keep138 : List Nat := [0, 1, 2, 3, 4, 5]
def res138 : List RI := [.cell true 3 4]
theorem chk138 : chk Tryd.prog 138 2 keep138 = some (ir138, res138) := by kernel_rfl

/-- The first place where something holds, or -1. -/
def ixP (q : Nat → Bool) : Nat → Int
  | 0 => -1
  | N + 1 => if 0 ≤ ixP q N then ixP q N else if q N = true then (N : Int) else -1
theorem ixP_lt (q : Nat → Bool) : ∀ N, -1 ≤ ixP q N ∧ ixP q N < N
  | 0 => by simp [ixP]
  | N + 1 => by
    have := ixP_lt q N
    simp only [ixP]
    split
    · omega
    · split <;> omega
theorem ixP_no {q : Nat → Bool} : ∀ {N : Nat}, (∀ j, j < N → q j = false) → ixP q N = -1
  | 0, _ => rfl
  | N + 1, h => by
    simp only [ixP, ixP_no (N := N) fun j hj => h j (by omega), h N (by omega)]
    simp
theorem ixP_at {q : Nat → Bool} {k : Nat} (hk : q k = true) (h : ∀ j, j < k → q j = false) : ∀ {N : Nat}, k < N → ixP q N = k
  | N + 1, hN => by
    by_cases h1 : k = N
    · subst h1
      simp only [ixP, ixP_no h, hk]
      simp
    · simp only [ixP, ixP_at hk h (N := N) (by omega)]
      simp
theorem ixP_iff (q : Nat → Bool) : ∀ N, 0 ≤ ixP q N ↔ allB (fun j => !q j) N = false
  | 0 => by simp [ixP, allB]
  | N + 1 => by
    have ih := ixP_iff q N
    simp only [ixP, allB]
    by_cases h : 0 ≤ ixP q N
    · have h1 := ih.1 h
      rw [if_pos h, h1]; simp [h]
    · have h1 : allB (fun j => !q j) N = true := by
        cases e : allB (fun j => !q j) N with
        | true => rfl
        | false => exact absurd (ih.2 e) h
      rw [if_neg h, h1]
      by_cases h2 : q N = true
      · rw [if_pos h2, h2]; simp
      · rw [if_neg h2]
        have h3 : q N = false := by simpa using h2
        rw [h3]; simp
theorem ixP_has (q : Nat → Bool) (N : Nat) : decide (0 ≤ ixP q N) = !allB (fun j => !q j) N := by
  have h := ixP_iff q N
  cases e : allB (fun j => !q j) N with
  | true => rw [e] at h; simp at h; simp; omega
  | false => rw [e] at h; simp at h; simpa using h
theorem ixP_spec {q : Nat → Bool} {N : Nat} (h : 0 ≤ ixP q N) : q (ixP q N).toNat = true ∧ (ixP q N).toNat < N ∧ ∀ j, j < (ixP q N).toNat → q j = false := by
  induction N with
  | zero => simp [ixP] at h
  | succ N ih =>
    simp only [ixP] at h ⊢
    by_cases h1 : 0 ≤ ixP q N
    · rw [if_pos h1]
      obtain ⟨a, b, c⟩ := ih h1
      exact ⟨a, by omega, c⟩
    · rw [if_neg h1] at h ⊢
      by_cases h2 : q N = true
      · rw [if_pos h2]
        refine ⟨by simpa using h2, by simp, fun j hj => ?_⟩
        have hh := ixP_has q N
        simp only [h1, decide_false] at hh
        have := allB_iff.1 (show allB (fun j => !q j) N = true by simpa using hh.symm) j (by simpa using hj)
        simpa using this
      · rw [if_neg h2] at h; omega
def in_ixM (nn : Bool) (S : List Blk) (i : Int) := (G0, res165, [(0, BX i)], [Item.ir ir165], start [BS nn S, .cl 135 [] [.adr 0 0]] [(0, BX i)])
theorem ev_ixM : ∀ (nn : Bool) (S : List Blk) (i : Int), ev G0 res165 [((0 : Nat), BX i)] (3000 : Nat) Or.nil [Item.ir ir165] (start [BS nn S, AV.cl (135 : FuncId) [] [AV.adr (0 : Nat) (0 : Nat)]] [((0 : Nat), BX i)]) = VC.loop ir165_L1 [Item.bend (0 : Nat), Item.ir ir165_T2] (St.mk [((0 : Nat), AV.p false (PV.sl nn (3 : Nat) S.length (SB S))), ((1 : Nat), AV.cl (135 : Nat) [] [AV.adr (100000 : Nat) (0 : Nat)]), ((4 : Nat), AV.p true (PV.v (Value.int IntKind.i64 (0 : Int)))), ((7 : Nat), AV.p true (PV.v (Value.int IntKind.i64 (↑S.length : Int)))), ((8 : Nat), AV.p true (PV.v (Value.int IntKind.i64 (0 : Int))))] [((100000 : Nat), Ob.box [AV.p true (PV.v (Value.int IntKind.i64 i))])]) := by intros; kernel_rfl
def st_ixM (nn : Bool) (S : List Blk) (i : Int) (k : Nat) : St := ⟨[(0, BS nn S), (1, .cl 135 [] [.adr 100000 0]), (7, AI S.length), (8, AI k)], [(100000, BX i)]⟩
def r_ixM (nn : Bool) (S : List Blk) (i : Int) (I : Nat → St → Prop) (k : Nat) := (G0, res165, [(0, BX i)], [Item.ir ir165_L1, .lend (I k), Item.bend 0, Item.ir ir165_T2], st_ixM nn S i k)
theorem c_mv1' (S : List Blk) (j : Nat) (i : Int) (hl : 0 ≤ (S.getD j b0).l ∧ (S.getD j b0).l ≤ 3) : PObj Tryd.prog G0 135 [.ag [AI ((S.getD j b0).col 0), AI ((S.getD j b0).col 1), AI ((S.getD j b0).col 2)], .adr 0 0] [(0, BX i)] (AB (!onB (S.getD j b0).l i)) [(0, BX i)] := c_mv1 (S.getD j b0) i hl
theorem evr_ixM : ∀ (nn : Bool) (S : List Blk) (i : Int) (I : Nat → St → Prop) (k : Nat), ev G0 res165 [((0 : Nat), BX i)] (3000 : Nat) ((Or.call [(100000 : Nat)] (AB !onB (S.getD (↑k : Int).toNat b0).l i) [((0 : Nat), BX i)] (Or.nil.split Or.nil)).split Or.nil) [Item.ir ir165_L1, Item.lend (I k), Item.bend (0 : Nat), Item.ir ir165_T2] (st_ixM nn S i k) = VC.split (decide ((↑k : Int) < (↑S.length : Int))) (VC.need ((0 : Int) ≤ (↑k : Int) ∧ (↑k : Int).toNat < S.length) (VC.call (135 : Nat) [AV.ag [AV.p true (PV.v (Value.int IntKind.i64 ((S.getD (↑k : Int).toNat b0).col (nat_lit 0)))), AV.p true (PV.v (Value.int IntKind.i64 ((S.getD (↑k : Int).toNat b0).col (nat_lit 1)))), AV.p true (PV.v (Value.int IntKind.i64 ((S.getD (↑k : Int).toNat b0).col (nat_lit 2))))], AV.adr (0 : Nat) (0 : Nat)] [((0 : Nat), Ob.box [AV.p true (PV.v (Value.int IntKind.i64 i))])] (AB !onB (S.getD (↑k : Int).toNat b0).l i) [((0 : Nat), BX i)] (VC.split (!onB (S.getD (↑k : Int).toNat b0).l i) (VC.done (St.mk [((0 : Nat), AV.p false (PV.sl nn (3 : Nat) S.length (SB S))), ((1 : Nat), AV.cl (135 : Nat) [] [AV.adr (100000 : Nat) (0 : Nat)]), ((7 : Nat), AV.p true (PV.v (Value.int IntKind.i64 (↑S.length : Int)))), ((8 : Nat), AV.p true (PV.v (Value.int IntKind.i64 (↑k : Int)))), ((9 : Nat), AV.p true (PV.v (Value.bool (decide ((↑k : Int) < (↑S.length : Int)))))), ((5 : Nat), AV.p true (PV.v (Value.int IntKind.i64 (↑k : Int)))), ((16 : Nat), AV.p true (PV.v (Value.bool !onB (S.getD (↑k : Int).toNat b0).l i))), ((4 : Nat), AV.p true (PV.v (Value.int IntKind.i64 (↑k : Int))))] [((100000 : Nat), Ob.box [AV.p true (PV.v (Value.int IntKind.i64 i))])])) (VC.lend (I k) (St.mk [((0 : Nat), AV.p false (PV.sl nn (3 : Nat) S.length (SB S))), ((1 : Nat), AV.cl (135 : Nat) [] [AV.adr (100000 : Nat) (0 : Nat)]), ((7 : Nat), AV.p true (PV.v (Value.int IntKind.i64 (↑S.length : Int)))), ((8 : Nat), AV.p true (PV.v (Value.int IntKind.i64 (IntKind.i64.wrap ((↑k : Int) + (1 : Int)))))), ((9 : Nat), AV.p true (PV.v (Value.bool (decide ((↑k : Int) < (↑S.length : Int)))))), ((5 : Nat), AV.p true (PV.v (Value.int IntKind.i64 (↑k : Int)))), ((16 : Nat), AV.p true (PV.v (Value.bool !onB (S.getD (↑k : Int).toNat b0).l i)))] [((100000 : Nat), Ob.box [AV.p true (PV.v (Value.int IntKind.i64 i))])]))))) (VC.done (St.mk [((0 : Nat), AV.p false (PV.sl nn (3 : Nat) S.length (SB S))), ((1 : Nat), AV.cl (135 : Nat) [] [AV.adr (100000 : Nat) (0 : Nat)]), ((7 : Nat), AV.p true (PV.v (Value.int IntKind.i64 (↑S.length : Int)))), ((8 : Nat), AV.p true (PV.v (Value.int IntKind.i64 (↑k : Int)))), ((9 : Nat), AV.p true (PV.v (Value.bool (decide ((↑k : Int) < (↑S.length : Int)))))), ((4 : Nat), AV.p true (PV.v (Value.int IntKind.i64 (-1 : Int))))] [((100000 : Nat), Ob.box [AV.p true (PV.v (Value.int IntKind.i64 i))])])) := by intros; kernel_rfl
theorem c_ixM (nn : Bool) (S : List Blk) (i : Int) (hn : S.length ≤ 1048576) (hl : ∀ j, j < S.length → 0 ≤ (S.getD j b0).l ∧ (S.getD j b0).l ≤ 3) : PObj Tryd.prog G0 165 [BS nn S, .cl 135 [] [.adr 0 0]] [(0, BX i)] (AI (ixP (fun j => !onB (S.getD j b0).l i) S.length)) [(0, BX i)] := by
  refine PObj.by chk165 rfl (ev_ixM nn S i) ?_
  refine loop_by (st_ixM nn S i) (fun k => k ≤ S.length ∧ ∀ j, j < k → (!onB (S.getD j b0).l i) = false) (fun k => S.length - k) 0 [] [] [] (by simp) ?_ (evr_ixM nn S i) fun k hk => ?_
  · simp [st_ixM, hbs, St.lowers, St.lower, stLe, leEnv, leObs, obLe, injB, pinC, AV.leC, AV.leCs, PV.leC, PV.Le_v, St.get, St.obj, look, rho, isNew, keptC, renH, Mode.ok, Mode.isZ, PV.isVal, PV.isNilSl, List.all_nil, List.all_cons, List.any_nil, List.any_cons, List.map_nil, List.map_cons, PV.Le_self]
  · obtain ⟨hk, hall⟩ := hk
    simp only [VC.holds_split, VC.holds_need, VC.holds_doneP, VC.holds_done, VC.holds_either, VC.holds_call, VC.holds_callE, VC.holds_lend, VC.holds_stop, VC.holds_fail, decide_eq_true_eq, decide_eq_false_iff_not, Int.toNat_natCast]
    have ek : IntKind.i64.wrap ((k : Int) + 1) = ((k + 1 : Nat) : Int) := wrap_in (by omega) (by omega)
    refine ⟨fun h1 => ⟨by omega, c_mv1' _ _ _ (hl k (by omega)), fun h2 => ?_, fun h2 => ?_⟩, fun h1 => ?_⟩
    · rw [ixP_at (q := fun j => !onB (S.getD j b0).l i) h2 hall (by omega)]
      refine ResOk.mk [] [(0, 100000)] [] _ _ ?_ ⟨rfl, rfl⟩
      simp [doneC, resOf, resAV, tup, pinR, PV.Le_self, hbs, St.lowers, St.lower, stLe, leEnv, leObs, obLe, injB, pinC, AV.leC, AV.leCs, PV.leC, PV.Le_v, St.get, St.obj, look, rho, isNew, keptC, renH, Mode.ok, Mode.isZ, PV.isVal, PV.isNilSl, List.all_nil, List.all_cons, List.any_nil, List.any_cons, List.map_nil, List.map_cons, res165]
    · refine Again.mk (k + 1) [] [] [] ⟨by omega, fun j hj => ?_⟩ (by omega) ?_
      · by_cases h3 : j = k
        · subst h3; exact h2
        · exact hall j (by omega)
      · simp [st_ixM, hbs, St.lowers, St.lower, stLe, leEnv, leObs, obLe, injB, pinC, AV.leC, AV.leCs, PV.leC, PV.Le_v, St.get, St.obj, look, rho, isNew, keptC, renH, Mode.ok, Mode.isZ, PV.isVal, PV.isNilSl, List.all_nil, List.all_cons, List.any_nil, List.any_cons, List.map_nil, List.map_cons, PV.Le_self, ek]
    · have : k = S.length := by omega
      subst this
      rw [ixP_no hall]
      refine ResOk.mk [] [(0, 100000)] [] _ _ ?_ ⟨rfl, rfl⟩
      simp [doneC, resOf, resAV, tup, pinR, PV.Le_self, hbs, St.lowers, St.lower, stLe, leEnv, leObs, obLe, injB, pinC, AV.leC, AV.leCs, PV.leC, PV.Le_v, St.get, St.obj, look, rho, isNew, keptC, renH, Mode.ok, Mode.isZ, PV.isVal, PV.isNilSl, List.all_nil, List.all_cons, List.any_nil, List.any_cons, List.map_nil, List.map_cons, res165]
def in_ixB (nn : Bool) (S : List Blk) (i : Int) := (G0, res165, [(0, BX i)], [Item.ir ir165], start [BS nn S, .cl 167 [] [.adr 0 0]] [(0, BX i)])
theorem ev_ixB : ∀ (nn : Bool) (S : List Blk) (i : Int), ev G0 res165 [((0 : Nat), BX i)] (3000 : Nat) Or.nil [Item.ir ir165] (start [BS nn S, AV.cl (167 : FuncId) [] [AV.adr (0 : Nat) (0 : Nat)]] [((0 : Nat), BX i)]) = VC.loop ir165_L1 [Item.bend (0 : Nat), Item.ir ir165_T2] (St.mk [((0 : Nat), AV.p false (PV.sl nn (3 : Nat) S.length (SB S))), ((1 : Nat), AV.cl (167 : Nat) [] [AV.adr (100000 : Nat) (0 : Nat)]), ((4 : Nat), AV.p true (PV.v (Value.int IntKind.i64 (0 : Int)))), ((7 : Nat), AV.p true (PV.v (Value.int IntKind.i64 (↑S.length : Int)))), ((8 : Nat), AV.p true (PV.v (Value.int IntKind.i64 (0 : Int))))] [((100000 : Nat), Ob.box [AV.p true (PV.v (Value.int IntKind.i64 i))])]) := by intros; kernel_rfl
def st_ixB (nn : Bool) (S : List Blk) (i : Int) (k : Nat) : St := ⟨[(0, BS nn S), (1, .cl 167 [] [.adr 100000 0]), (7, AI S.length), (8, AI k)], [(100000, BX i)]⟩
def r_ixB (nn : Bool) (S : List Blk) (i : Int) (I : Nat → St → Prop) (k : Nat) := (G0, res165, [(0, BX i)], [Item.ir ir165_L1, .lend (I k), Item.bend 0, Item.ir ir165_T2], st_ixB nn S i k)
theorem c_bl1' (S : List Blk) (j : Nat) (i : Int) : PObj Tryd.prog G0 167 [.ag [AI ((S.getD j b0).col 0), AI ((S.getD j b0).col 1), AI ((S.getD j b0).col 2)], .adr 0 0] [(0, BX i)] (AB ((S.getD j b0).a == i)) [(0, BX i)] := c_bl1 (S.getD j b0) i
theorem evr_ixB : ∀ (nn : Bool) (S : List Blk) (i : Int) (I : Nat → St → Prop) (k : Nat), ev G0 res165 [((0 : Nat), BX i)] (3000 : Nat) ((Or.call [(100000 : Nat)] (AB ((S.getD (↑k : Int).toNat b0).a == i)) [((0 : Nat), BX i)] (Or.nil.split Or.nil)).split Or.nil) [Item.ir ir165_L1, Item.lend (I k), Item.bend (0 : Nat), Item.ir ir165_T2] (st_ixB nn S i k) = VC.split (decide ((↑k : Int) < (↑S.length : Int))) (VC.need ((0 : Int) ≤ (↑k : Int) ∧ (↑k : Int).toNat < S.length) (VC.call (167 : Nat) [AV.ag [AV.p true (PV.v (Value.int IntKind.i64 ((S.getD (↑k : Int).toNat b0).col (nat_lit 0)))), AV.p true (PV.v (Value.int IntKind.i64 ((S.getD (↑k : Int).toNat b0).col (nat_lit 1)))), AV.p true (PV.v (Value.int IntKind.i64 ((S.getD (↑k : Int).toNat b0).col (nat_lit 2))))], AV.adr (0 : Nat) (0 : Nat)] [((0 : Nat), Ob.box [AV.p true (PV.v (Value.int IntKind.i64 i))])] (AB ((S.getD (↑k : Int).toNat b0).a == i)) [((0 : Nat), BX i)] (VC.split ((S.getD (↑k : Int).toNat b0).a == i) (VC.done (St.mk [((0 : Nat), AV.p false (PV.sl nn (3 : Nat) S.length (SB S))), ((1 : Nat), AV.cl (167 : Nat) [] [AV.adr (100000 : Nat) (0 : Nat)]), ((7 : Nat), AV.p true (PV.v (Value.int IntKind.i64 (↑S.length : Int)))), ((8 : Nat), AV.p true (PV.v (Value.int IntKind.i64 (↑k : Int)))), ((9 : Nat), AV.p true (PV.v (Value.bool (decide ((↑k : Int) < (↑S.length : Int)))))), ((5 : Nat), AV.p true (PV.v (Value.int IntKind.i64 (↑k : Int)))), ((16 : Nat), AV.p true (PV.v (Value.bool ((S.getD (↑k : Int).toNat b0).a == i)))), ((4 : Nat), AV.p true (PV.v (Value.int IntKind.i64 (↑k : Int))))] [((100000 : Nat), Ob.box [AV.p true (PV.v (Value.int IntKind.i64 i))])])) (VC.lend (I k) (St.mk [((0 : Nat), AV.p false (PV.sl nn (3 : Nat) S.length (SB S))), ((1 : Nat), AV.cl (167 : Nat) [] [AV.adr (100000 : Nat) (0 : Nat)]), ((7 : Nat), AV.p true (PV.v (Value.int IntKind.i64 (↑S.length : Int)))), ((8 : Nat), AV.p true (PV.v (Value.int IntKind.i64 (IntKind.i64.wrap ((↑k : Int) + (1 : Int)))))), ((9 : Nat), AV.p true (PV.v (Value.bool (decide ((↑k : Int) < (↑S.length : Int)))))), ((5 : Nat), AV.p true (PV.v (Value.int IntKind.i64 (↑k : Int)))), ((16 : Nat), AV.p true (PV.v (Value.bool ((S.getD (↑k : Int).toNat b0).a == i))))] [((100000 : Nat), Ob.box [AV.p true (PV.v (Value.int IntKind.i64 i))])]))))) (VC.done (St.mk [((0 : Nat), AV.p false (PV.sl nn (3 : Nat) S.length (SB S))), ((1 : Nat), AV.cl (167 : Nat) [] [AV.adr (100000 : Nat) (0 : Nat)]), ((7 : Nat), AV.p true (PV.v (Value.int IntKind.i64 (↑S.length : Int)))), ((8 : Nat), AV.p true (PV.v (Value.int IntKind.i64 (↑k : Int)))), ((9 : Nat), AV.p true (PV.v (Value.bool (decide ((↑k : Int) < (↑S.length : Int)))))), ((4 : Nat), AV.p true (PV.v (Value.int IntKind.i64 (-1 : Int))))] [((100000 : Nat), Ob.box [AV.p true (PV.v (Value.int IntKind.i64 i))])])) := by intros; kernel_rfl
theorem c_ixB (nn : Bool) (S : List Blk) (i : Int) (hn : S.length ≤ 1048576) : PObj Tryd.prog G0 165 [BS nn S, .cl 167 [] [.adr 0 0]] [(0, BX i)] (AI (ixP (fun j => (S.getD j b0).a == i) S.length)) [(0, BX i)] := by
  refine PObj.by chk165 rfl (ev_ixB nn S i) ?_
  refine loop_by (st_ixB nn S i) (fun k => k ≤ S.length ∧ ∀ j, j < k → ((S.getD j b0).a == i) = false) (fun k => S.length - k) 0 [] [] [] (by simp) ?_ (evr_ixB nn S i) fun k hk => ?_
  · simp [st_ixB, hbs, St.lowers, St.lower, stLe, leEnv, leObs, obLe, injB, pinC, AV.leC, AV.leCs, PV.leC, PV.Le_v, St.get, St.obj, look, rho, isNew, keptC, renH, Mode.ok, Mode.isZ, PV.isVal, PV.isNilSl, List.all_nil, List.all_cons, List.any_nil, List.any_cons, List.map_nil, List.map_cons, PV.Le_self]
  · obtain ⟨hk, hall⟩ := hk
    simp only [VC.holds_split, VC.holds_need, VC.holds_doneP, VC.holds_done, VC.holds_either, VC.holds_call, VC.holds_callE, VC.holds_lend, VC.holds_stop, VC.holds_fail, decide_eq_true_eq, decide_eq_false_iff_not, Int.toNat_natCast]
    have ek : IntKind.i64.wrap ((k : Int) + 1) = ((k + 1 : Nat) : Int) := wrap_in (by omega) (by omega)
    refine ⟨fun h1 => ⟨by omega, c_bl1' _ _ _, fun h2 => ?_, fun h2 => ?_⟩, fun h1 => ?_⟩
    · rw [ixP_at (q := fun j => (S.getD j b0).a == i) h2 hall (by omega)]
      refine ResOk.mk [] [(0, 100000)] [] _ _ ?_ ⟨rfl, rfl⟩
      simp [doneC, resOf, resAV, tup, pinR, PV.Le_self, hbs, St.lowers, St.lower, stLe, leEnv, leObs, obLe, injB, pinC, AV.leC, AV.leCs, PV.leC, PV.Le_v, St.get, St.obj, look, rho, isNew, keptC, renH, Mode.ok, Mode.isZ, PV.isVal, PV.isNilSl, List.all_nil, List.all_cons, List.any_nil, List.any_cons, List.map_nil, List.map_cons, res165]
    · refine Again.mk (k + 1) [] [] [] ⟨by omega, fun j hj => ?_⟩ (by omega) ?_
      · by_cases h3 : j = k
        · subst h3; exact h2
        · exact hall j (by omega)
      · simp [st_ixB, hbs, St.lowers, St.lower, stLe, leEnv, leObs, obLe, injB, pinC, AV.leC, AV.leCs, PV.leC, PV.Le_v, St.get, St.obj, look, rho, isNew, keptC, renH, Mode.ok, Mode.isZ, PV.isVal, PV.isNilSl, List.all_nil, List.all_cons, List.any_nil, List.any_cons, List.map_nil, List.map_cons, PV.Le_self, ek]
    · have : k = S.length := by omega
      subst this
      rw [ixP_no hall]
      refine ResOk.mk [] [(0, 100000)] [] _ _ ?_ ⟨rfl, rfl⟩
      simp [doneC, resOf, resAV, tup, pinR, PV.Le_self, hbs, St.lowers, St.lower, stLe, leEnv, leObs, obLe, injB, pinC, AV.leC, AV.leCs, PV.leC, PV.Le_v, St.get, St.obj, look, rho, isNew, keptC, renH, Mode.ok, Mode.isZ, PV.isVal, PV.isNilSl, List.all_nil, List.all_cons, List.any_nil, List.any_cons, List.map_nil, List.map_cons, res165]
def in_cfM (nn : Bool) (S : List Blk) (i : Int) := (G0, res134, [(0, BX i)], [Item.ir ir134], start [BS nn S, .cl 135 [] [.adr 0 0]] [(0, BX i)])
theorem ev_cfM : ∀ (nn : Bool) (S : List Blk) (i : Int), ev G0 res134 [((0 : Nat), BX i)] (3000 : Nat) (Or.call [(100000 : Nat)] (AI (ixP (fun (j : Nat) => !onB (S.getD j b0).l i) S.length)) [((0 : Nat), BX i)] Or.nil) [Item.ir ir134] (start [BS nn S, AV.cl (135 : FuncId) [] [AV.adr (0 : Nat) (0 : Nat)]] [((0 : Nat), BX i)]) = VC.call (165 : Nat) [AV.p false (PV.sl nn (3 : Nat) S.length (SB S)), AV.cl (135 : Nat) [] [AV.adr (0 : Nat) (0 : Nat)]] [((0 : Nat), Ob.box [AV.p true (PV.v (Value.int IntKind.i64 i))])] (AI (ixP (fun (j : Nat) => !onB (S.getD j b0).l i) S.length)) [((0 : Nat), BX i)] (VC.done (St.mk [((0 : Nat), AV.p false (PV.sl nn (3 : Nat) S.length (SB S))), ((1 : Nat), AV.cl (135 : Nat) [] [AV.adr (100000 : Nat) (0 : Nat)]), ((4 : Nat), AV.p true (PV.v (Value.bool (decide ((0 : Int) ≤ ixP (fun (j : Nat) => !onB (S.getD j b0).l i) S.length)))))] [((100000 : Nat), Ob.box [AV.p true (PV.v (Value.int IntKind.i64 i))])])) := by intros; kernel_rfl
theorem c_cfM (nn : Bool) (S : List Blk) (i : Int) (hn : S.length ≤ 1048576) (hl : ∀ j, j < S.length → 0 ≤ (S.getD j b0).l ∧ (S.getD j b0).l ≤ 3) : PObj Tryd.prog G0 134 [BS nn S, .cl 135 [] [.adr 0 0]] [(0, BX i)] (AB (!allB (fun j => onB (S.getD j b0).l i) S.length)) [(0, BX i)] := by
  refine PObj.by chk134 rfl (ev_cfM nn S i) ?_
  simp only [VC.holds_split, VC.holds_need, VC.holds_doneP, VC.holds_done, VC.holds_either, VC.holds_call, VC.holds_callE, VC.holds_lend, VC.holds_stop, VC.holds_fail, decide_eq_true_eq, decide_eq_false_iff_not]
  have e := ixP_has (fun j => !onB (S.getD j b0).l i) S.length
  simp only [Bool.not_not] at e
  refine ⟨c_ixM _ _ _ hn hl, ResOk.mk [] [(0, 100000)] [] _ _ ?_ ⟨rfl, rfl⟩⟩
  simp [doneC, resOf, resAV, tup, pinR, PV.Le_self, hbs, St.lowers, St.lower, stLe, leEnv, leObs, obLe, injB, pinC, AV.leC, AV.leCs, PV.leC, PV.Le_v, St.get, St.obj, look, rho, isNew, keptC, renH, Mode.ok, Mode.isZ, PV.isVal, PV.isNilSl, List.all_nil, List.all_cons, List.any_nil, List.any_cons, List.map_nil, List.map_cons, res134]
  simpa using e
def in_block (T : List (List Blk)) (S : List Blk) (i : Int) := (G0, res138, ([] : List (Nat × Ob)), [Item.ir ir138], start [ME T S, AI i] [])
theorem ev_block : ∀ (T : List (List Blk)) (S : List Blk) (i : Int), ev G0 res138 [] (3000 : Nat) (Or.call [] (AV.own (0 : Nat)) [((0 : Nat), Ob.row Mode.u false (3 : Nat) (S ++ T.flatten).length (SB (S ++ T.flatten)) [])] (Or.call [(3 : Nat)] (AI (ixP (fun (j : Nat) => ((S ++ T.flatten).getD j b0).a == i) (S ++ T.flatten).length)) [((0 : Nat), BX i)] Or.nil)) [Item.ir ir138] (start [ME T S, AI i] []) = VC.call (59 : Nat) [AV.ag [AV.p false (PV.sl false (1 : Nat) T.length (BB T)), AV.p false (PV.sl false (3 : Nat) S.length (SB S))]] [] (AV.own (0 : Nat)) [((0 : Nat), Ob.row Mode.u false (3 : Nat) (S ++ T.flatten).length (SB (S ++ T.flatten)) [])] (VC.call (165 : Nat) [AV.p false (PV.sl false (3 : Nat) (S ++ T.flatten).length (SB (S ++ T.flatten))), AV.cl (167 : Nat) [] [AV.adr (0 : Nat) (0 : Nat)]] [((0 : Nat), Ob.box [AV.p true (PV.v (Value.int IntKind.i64 i))])] (AI (ixP (fun (j : Nat) => ((S ++ T.flatten).getD j b0).a == i) (S ++ T.flatten).length)) [((0 : Nat), BX i)] (VC.need ((0 : Int) ≤ ixP (fun (j : Nat) => ((S ++ T.flatten).getD j b0).a == i) (S ++ T.flatten).length ∧ (ixP (fun (j : Nat) => ((S ++ T.flatten).getD j b0).a == i) (S ++ T.flatten).length).toNat < (S ++ T.flatten).length) (VC.need ((ixP (fun (j : Nat) => ((S ++ T.flatten).getD j b0).a == i) (S ++ T.flatten).length).toNat < (S ++ T.flatten).length) (VC.doneP (AV.ag [AV.p true (PV.v (Value.int IntKind.i64 (((S ++ T.flatten).getD (ixP (fun (j : Nat) => ((S ++ T.flatten).getD j b0).a == i) (S ++ T.flatten).length).toNat b0).col ((0 : Nat) + (0 : Nat))))), AV.p true (PV.v (Value.int IntKind.i64 (((S ++ T.flatten).getD (ixP (fun (j : Nat) => ((S ++ T.flatten).getD j b0).a == i) (S ++ T.flatten).length).toNat b0).col ((0 : Nat) + ((0 : Nat) + (1 : Nat)))))), AV.p true (PV.v (Value.int IntKind.i64 (((S ++ T.flatten).getD (ixP (fun (j : Nat) => ((S ++ T.flatten).getD j b0).a == i) (S ++ T.flatten).length).toNat b0).col ((0 : Nat) + ((0 : Nat) + (1 : Nat) + (1 : Nat))))))]))))) := by intros; kernel_rfl
abbrev allM (T : List (List Blk)) (S : List Blk) : List Blk := S ++ T.flatten
def blkOf (A : List Blk) (i : Int) : Blk := A.getD (ixP (fun j => (A.getD j b0).a == i) A.length).toNat b0
theorem c_block (T : List (List Blk)) (S : List Blk) (i : Int) (hT : T.length ≤ 1048576) (hS : S.length + T.flatten.length ≤ 1048576) (h : 0 ≤ ixP (fun j => ((allM T S).getD j b0).a == i) (allM T S).length) : PRet Tryd.prog G0 138 [ME T S, AI i] (BA (blkOf (allM T S) i)) := by
  refine PRet.by chk138 (ev_block T S i) ?_
  simp only [VC.holds_split, VC.holds_need, VC.holds_doneP, VC.holds_done, VC.holds_either, VC.holds_call, VC.holds_callE, VC.holds_lend, VC.holds_stop, VC.holds_fail, decide_eq_true_eq, decide_eq_false_iff_not]
  have h2 := ixP_lt (fun j => ((S ++ T.flatten).getD j b0).a == i) (S ++ T.flatten).length
  have h3 : 0 ≤ ixP (fun j => ((S ++ T.flatten).getD j b0).a == i) (S ++ T.flatten).length := h
  refine ⟨c_all _ _ hT hS, c_ixB _ _ _ (by rw [List.length_append]; omega), ⟨by omega, by omega⟩, by omega, ?_⟩
  exact ⟨rfl, trivial⟩
end Go.Gw
