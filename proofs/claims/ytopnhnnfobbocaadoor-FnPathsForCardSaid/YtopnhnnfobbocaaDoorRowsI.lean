/- Rows of rows of numbers: copied, compared, written over, read again; with no condition. -/
import Derived.Test.YtopnhnnfobbocaaDoorText
import Derived.KernelRfl
namespace Go.Gw
open Go Go.Proofs
set_option linter.unusedSimpArgs false
set_option linter.unusedVariables false
set_option maxRecDepth 100000
def ir103_L1 : Ir :=
  (.seq
  (.seq
  (.reg [12, 13, 14] [o 12 (.mov (tt 5)),
    o 13 (.mov (tt 0)),
    o 14 (.len (tt 13)),
    o 15 (.bin .lss (tt 12) (tt 14))])
  (.cond (tt 15)
   .skip
   (.exit 0)))
  (.seq
  (.block 1
   (.seq
   (.reg [18, 19, 20, 21, 22, 23] [o 18 (.mov (tt 0)),
     o 19 (.mov (tt 5)),
     o 20 (.idx 1 (tt 18) (tt 19)),
     o 21 (.load false 1 (tt 20)),
     o 22 (.mov (tt 1)),
     o 23 (.call 153 [(tt 21), (tt 22)]),
     o 1 (.mov (tt 23))])
   (.seq
   (.reg [24] [o 24 (.mov (tt 1)),
     o 25 (.bin .lss (tt 24) (ci 0))])
   (.cond (tt 25)
    (.seq
    (.reg [] [o 4 (.mov (ci (-1)))])
    .ret)
    .skip))))
  (.reg [16, 17] [o 16 (.mov (tt 5)),
    o 17 (.bin .add (tt 16) (ci 1)),
    o 5 (.mov (tt 17))])))
def ir103_T2 : Ir :=
  (.seq
  (.reg [26] [o 26 (.mov (tt 1)),
    o 4 (.mov (tt 26))])
  .ret)
def ir103 : Ir :=
  (.seq
  (.reg [] [o 4 (.mov (ci 0))])
  (.seq
  (.reg [6, 7, 8, 9] [o 6 (.mov (tt 1)),
    o 7 (.mov (tt 0)),
    o 8 (.len (tt 7)),
    o 9 (.bin .sub (tt 6) (tt 8)),
    o 1 (.mov (tt 9))])
  (.seq
  (.seq
  (.reg [10] [o 10 (.mov (tt 1)),
    o 11 (.bin .lss (tt 10) (ci 0))])
  (.cond (tt 11)
   (.seq
   (.reg [] [o 4 (.mov (ci (-1)))])
   .ret)
   .skip))
  (.seq
  (.seq
  (.reg [] [o 5 (.mov (ci 0))])
  (.block 0
   (.loop ir103_L1)))
  ir103_T2))))
def keep103 : List Nat := [0, 1, 4, 5, 11, 15, 25]
def res103 : List RI := [.tmp 4]
theorem chk103 : chk Tryd.prog 103 2 keep103 = some (ir103, res103) := by kernel_rfl
def ir105_L1 : Ir :=
  (.seq
  (.seq
  (.reg [8, 9, 10] [o 8 (.mov (tt 4)),
    o 9 (.mov (tt 0)),
    o 10 (.len (tt 9)),
    o 11 (.bin .lss (tt 8) (tt 10))])
  (.cond (tt 11)
   .skip
   (.exit 0)))
  (.seq
  (.block 1
   (.reg [14, 15, 16, 17, 18, 19, 20, 21] [o 14 (.mov (tt 3)),
     o 15 (.mov (tt 4)),
     o 16 (.mov (tt 0)),
     o 17 (.mov (tt 4)),
     o 18 (.idx 1 (tt 16) (tt 17)),
     o 19 (.load false 1 (tt 18)),
     o 20 (.call 154 [(tt 19)]),
     o 21 (.idx 1 (tt 14) (tt 15)),
     on (.store 1 (tt 21) (tt 20))]))
  (.reg [12, 13] [o 12 (.mov (tt 4)),
    o 13 (.bin .add (tt 12) (ci 1)),
    o 4 (.mov (tt 13))])))
def ir105_T2 : Ir :=
  (.seq
  (.reg [22] [o 22 (.mov (tt 3)),
    o 2 (.mov (tt 22))])
  .ret)
def ir105 : Ir :=
  (.seq
  (.reg [] [o 2 (.mov (.const (.slice none 0 0)))])
  (.seq
  (.reg [5, 6, 7] [o 5 (.mov (tt 0)),
    o 6 (.len (tt 5)),
    o 7 (.mkSlc 1 24 [(.slice none 0 0)] (tt 6) (tt 6)),
    o 3 (.mov (tt 7))])
  (.seq
  (.seq
  (.reg [] [o 4 (.mov (ci 0))])
  (.block 0
   (.loop ir105_L1)))
  ir105_T2)))
def keep105 : List Nat := [0, 2, 3, 4, 11]
def res105 : List RI := [.tmp 2]
theorem chk105 : chk Tryd.prog 105 1 keep105 = some (ir105, res105) := by kernel_rfl
def ir78_L1 : Ir :=
  (.seq
  (.seq
  (.reg [11, 12, 13] [o 11 (.mov (tt 5)),
    o 12 (.mov (tt 0)),
    o 13 (.len (tt 12)),
    o 14 (.bin .lss (tt 11) (tt 13))])
  (.cond (tt 14)
   .skip
   (.exit 0)))
  (.seq
  (.block 1
   (.seq
   (.dreg [17, 18, 19, 20, 21, 22, 23, 24, 25] [0, 0, 3, 7, 0, 0, 48, 112, 255, 511] [(3, 1020), (7, 1024), (8, 1025), (8, 2025), (8, 3025), (8, 4025), (8, 5025), (8, 6025), (8, 7025), (8, 8025)] [o 17 (.mov (tt 0)),
     o 18 (.mov (tt 5)),
     o 19 (.idx 1 (tt 17) (tt 18)),
     o 20 (.load false 1 (tt 19)),
     o 21 (.mov (tt 1)),
     o 22 (.mov (tt 5)),
     o 23 (.idx 1 (tt 21) (tt 22)),
     o 24 (.load false 1 (tt 23)),
     o 25 (.call 143 [(tt 20), (tt 24)]),
     o 26 (.un .not (tt 25))])
   (.cond (tt 26)
    (.seq
    (.reg [] [o 4 (.mov (cb false))])
    .ret)
    .skip)))
  (.reg [15, 16] [o 15 (.mov (tt 5)),
    o 16 (.bin .add (tt 15) (ci 1)),
    o 5 (.mov (tt 16))])))
def ir78_T2 : Ir :=
  (.seq
  (.reg [] [o 4 (.mov (cb true))])
  .ret)
def ir78 : Ir :=
  (.seq
  (.reg [] [o 4 (.mov (cb false))])
  (.seq
  (.seq
  (.reg [6, 7, 8, 9] [o 6 (.mov (tt 0)),
    o 7 (.len (tt 6)),
    o 8 (.mov (tt 1)),
    o 9 (.len (tt 8)),
    o 10 (.bin .neq (tt 7) (tt 9))])
  (.cond (tt 10)
   (.seq
   (.reg [] [o 4 (.mov (cb false))])
   .ret)
   .skip))
  (.seq
  (.seq
  (.reg [] [o 5 (.mov (ci 0))])
  (.block 0
   (.loop ir78_L1)))
  ir78_T2)))
def keep78 : List Nat := [0, 1, 4, 5, 10, 14, 26]
def res78 : List RI := [.tmp 4]
theorem chk78 : chk Tryd.prog 78 2 keep78 = some (ir78, res78) := by kernel_rfl
def ir82_L1 : Ir :=
  (.seq
  (.seq
  (.reg [6, 7, 8] [o 6 (.mov (tt 5)),
    o 7 (.mov (tt 0)),
    o 8 (.len (tt 7)),
    o 9 (.bin .lss (tt 6) (tt 8))])
  (.cond (tt 9)
   .skip
   (.exit 0)))
  (.seq
  (.block 1
   (.reg [12, 13, 14, 15, 16, 17] [o 12 (.mov (tt 0)),
     o 13 (.mov (tt 5)),
     o 14 (.idx 1 (tt 12) (tt 13)),
     o 15 (.load false 1 (tt 14)),
     o 16 (.mov (tt 1)),
     o 17 (.call 144 [(tt 15), (tt 16)]),
     o 1 (.mov (tt 17))]))
  (.reg [10, 11] [o 10 (.mov (tt 5)),
    o 11 (.bin .add (tt 10) (ci 1)),
    o 5 (.mov (tt 11))])))
def ir82_T2 : Ir :=
  (.seq
  (.reg [18] [o 18 (.mov (tt 1)),
    o 4 (.mov (tt 18))])
  .ret)
def ir82 : Ir :=
  (.seq
  (.reg [] [o 4 (.mov (ci 0))])
  (.seq
  (.seq
  (.reg [] [o 5 (.mov (ci 0))])
  (.block 0
   (.loop ir82_L1)))
  ir82_T2))
def keep82 : List Nat := [0, 1, 4, 5, 9]
def res82 : List RI := [.tmp 4]
theorem chk82 : chk Tryd.prog 82 2 keep82 = some (ir82, res82) := by kernel_rfl
def ir84_L1 : Ir :=
  (.seq
  (.seq
  (.reg [6, 7, 8] [o 6 (.mov (tt 5)),
    o 7 (.mov (tt 0)),
    o 8 (.len (tt 7)),
    o 9 (.bin .lss (tt 6) (tt 8))])
  (.cond (tt 9)
   .skip
   (.exit 0)))
  (.seq
  (.block 1
   (.seq
   (.reg [12, 13, 14, 15, 16, 17] [o 12 (.mov (tt 0)),
     o 13 (.mov (tt 5)),
     o 14 (.idx 1 (tt 12) (tt 13)),
     o 15 (.load false 1 (tt 14)),
     o 16 (.mov (tt 1)),
     o 17 (.call 145 [(tt 15), (tt 16)]),
     o 1 (.mov (tt 17))])
   (.seq
   (.reg [18] [o 18 (.mov (tt 1)),
     o 19 (.bin .lss (tt 18) (ci 0))])
   (.cond (tt 19)
    (.seq
    (.reg [] [o 4 (.mov (ci (-1)))])
    .ret)
    .skip))))
  (.reg [10, 11] [o 10 (.mov (tt 5)),
    o 11 (.bin .add (tt 10) (ci 1)),
    o 5 (.mov (tt 11))])))
def ir84_T2 : Ir :=
  (.seq
  (.reg [20] [o 20 (.mov (tt 1)),
    o 4 (.mov (tt 20))])
  .ret)
def ir84 : Ir :=
  (.seq
  (.reg [] [o 4 (.mov (ci 0))])
  (.seq
  (.seq
  (.reg [] [o 5 (.mov (ci 0))])
  (.block 0
   (.loop ir84_L1)))
  ir84_T2))
def keep84 : List Nat := [0, 1, 4, 5, 9, 19]
def res84 : List RI := [.tmp 4]
theorem chk84 : chk Tryd.prog 84 2 keep84 = some (ir84, res84) := by kernel_rfl

abbrev RR (w : Nat → Nat) (h : Nat → Nat → Int) : Nat → Nat → PV := fun i _ => .sl false 1 (w i) fun j _ => PI (h i j)
abbrev RL (nn : Bool) (m : Nat) (w : Nat → Nat) (h : Nat → Nat → Int) : AV := .p false (.sl nn 1 m (RR w h))
theorem RR_le {w w' : Nat → Nat} {h h' : Nat → Nat → Int} {i : Nat} (hw : w i = w' i) (hh : ∀ j, j < w i → h i j = h' i j) : PV.Le (RR w h i 0) (RR w' h' i 0) :=
  .sl _ _ (fun e => e) _ _ _ _ _ hw fun j k hj _ => by rw [hh j hj]; exact .refl _
/-! ### sizes -/
def in_szR (nn : Bool) (m : Nat) (w : Nat → Nat) (h : Nat → Nat → Int) (l : Int) := (G0, res103, ([] : List (Nat × Ob)), [Item.ir ir103], start [RL nn m w h, AI l] [])
theorem ev_szR : ∀ (nn : Bool) (m : Nat) (w : Nat → Nat) (h : Nat → Nat → Int) (l : Int), ev G0 res103 [] (3000 : Nat) (Or.nil.split Or.nil) [Item.ir ir103] (start [RL nn m w h, AI l] []) = VC.split (decide (IntKind.i64.wrap (l - (↑m : Int)) < (0 : Int))) (VC.doneP (AV.p true (PV.v (Value.int IntKind.i64 (-1 : Int))))) (VC.loop ir103_L1 [Item.bend (0 : Nat), Item.ir ir103_T2] (St.mk [((0 : Nat), AV.p false (PV.sl nn (1 : Nat) m (RR w h))), ((1 : Nat), AV.p true (PV.v (Value.int IntKind.i64 (IntKind.i64.wrap (l - (↑m : Int)))))), ((4 : Nat), AV.p true (PV.v (Value.int IntKind.i64 (0 : Int)))), ((11 : Nat), AV.p true (PV.v (Value.bool (decide (IntKind.i64.wrap (l - (↑m : Int)) < (0 : Int)))))), ((5 : Nat), AV.p true (PV.v (Value.int IntKind.i64 (0 : Int))))] [])) := by intros; kernel_rfl
def st_szR (nn : Bool) (m : Nat) (w : Nat → Nat) (h : Nat → Nat → Int) (x : Nat × Int) : St := ⟨[(0, RL nn m w h), (1, AI x.2), (5, AI x.1)], []⟩
def r_szR (nn : Bool) (m : Nat) (w : Nat → Nat) (h : Nat → Nat → Int) (I : Nat × Int → St → Prop) (x : Nat × Int) := (G0, res103, ([] : List (Nat × Ob)), [Item.ir ir103_L1, .lend (I x), Item.bend 0, Item.ir ir103_T2], st_szR nn m w h x)
theorem evr_szR : ∀ (nn : Bool) (m : Nat) (w : Nat → Nat) (h : Nat → Nat → Int) (I : Nat × Int → St → Prop) (x : Nat × Int), ev G0 res103 [] (3000 : Nat) ((Or.call [] (AI (szN (w (↑x.1 : Int).toNat) x.2)) [] (Or.nil.split Or.nil)).split Or.nil) [Item.ir ir103_L1, Item.lend (I x), Item.bend (0 : Nat), Item.ir ir103_T2] (st_szR nn m w h x) = VC.split (decide ((↑x.1 : Int) < (↑m : Int))) (VC.need ((0 : Int) ≤ (↑x.1 : Int) ∧ (↑x.1 : Int).toNat < m) (VC.call (153 : Nat) [AV.p false (PV.sl false (1 : Nat) (w (↑x.1 : Int).toNat) fun (j x_1 : Nat) => PI (h (↑x.1 : Int).toNat j)), AV.p true (PV.v (Value.int IntKind.i64 x.2))] [] (AI (szN (w (↑x.1 : Int).toNat) x.2)) [] (VC.split (decide (szN (w (↑x.1 : Int).toNat) x.2 < (0 : Int))) (VC.doneP (AV.p true (PV.v (Value.int IntKind.i64 (-1 : Int))))) (VC.lend (I x) (St.mk [((0 : Nat), AV.p false (PV.sl nn (1 : Nat) m (RR w h))), ((1 : Nat), AV.p true (PV.v (Value.int IntKind.i64 (szN (w (↑x.1 : Int).toNat) x.2)))), ((5 : Nat), AV.p true (PV.v (Value.int IntKind.i64 (IntKind.i64.wrap ((↑x.1 : Int) + (1 : Int)))))), ((15 : Nat), AV.p true (PV.v (Value.bool (decide ((↑x.1 : Int) < (↑m : Int)))))), ((25 : Nat), AV.p true (PV.v (Value.bool (decide (szN (w (↑x.1 : Int).toNat) x.2 < (0 : Int))))))] []))))) (VC.doneP (AV.p true (PV.v (Value.int IntKind.i64 x.2)))) := by intros; kernel_rfl
theorem c_szR (nn : Bool) (m : Nat) (w : Nat → Nat) (h : Nat → Nat → Int) (l : Int) (hm : m ≤ maxLen) (hl0 : 0 ≤ l) (hl : l ≤ 1048576) (hf : ∀ i, w i ≤ maxLen) : PSome Tryd.prog G0 103 [RL nn m w h, AI l] [] Int (fun r => r = -1 ∨ (0 ≤ r ∧ r + m + (sumN w m : Nat) = l)) (fun r => AI r) (fun _ => []) := by
  refine PCall.by chk103 rfl (ev_szR nn m w h l) ?_
  simp only [VC.holds_split, VC.holds_need, VC.holds_doneP, VC.holds_done, VC.holds_either, VC.holds_call, VC.holds_callE, VC.holds_lend, VC.holds_stop, VC.holds_fail, decide_eq_true_eq, decide_eq_false_iff_not]
  have hx : maxLen = 9223372036854775807 := rfl
  have w1 : IntKind.i64.wrap (l - m) = l - m := wrap_in (by omega) (by omega)
  rw [w1]
  refine ⟨fun h => ⟨-1, .inl rfl, rfl, trivial⟩, fun h0 => ?_⟩
  refine loop_by (st_szR nn m w h) (fun x => x.1 ≤ m ∧ 0 ≤ x.2 ∧ x.2 + m + (sumN w x.1 : Nat) = l) (fun x => m - x.1) (0, l - m) [] [] [] ⟨by simp, by simp only []; omega, by simp only [sumN]; omega⟩ ?_ (evr_szR nn m w h) fun x hx' => ?_
  · simp [st_szR, hbs, St.lowers, St.lower, stLe, leEnv, leObs, obLe, injB, pinC, AV.leC, AV.leCs, PV.leC, PV.Le_v, St.get, St.obj, look, rho, isNew, keptC, renH, Mode.ok, Mode.isZ, PV.isVal, PV.isNilSl, List.all_nil, List.all_cons, List.any_nil, List.any_cons, List.map_nil, List.map_cons, PV.Le_self]
  · obtain ⟨k, r⟩ := x
    obtain ⟨h1, h2, h3⟩ := hx'
    simp only [] at h1 h2 h3
    have hk := hf k
    have w2 : IntKind.i64.wrap (r - (w k : Int)) = r - (w k : Int) := wrap_in (by omega) (by omega)
    simp only [VC.holds_split, VC.holds_need, VC.holds_doneP, VC.holds_done, VC.holds_either, VC.holds_call, VC.holds_callE, VC.holds_lend, VC.holds_stop, VC.holds_fail, decide_eq_true_eq, decide_eq_false_iff_not, Int.toNat_natCast]
    refine ⟨fun h5 => ⟨by omega, c_szIntS _ _ _ _, fun h6 => ⟨-1, .inl rfl, rfl, trivial⟩, fun h6 => ?_⟩, fun h5 => ⟨r, .inr ⟨h2, ?_⟩, rfl, trivial⟩⟩
    · have e := szN_neg h6
      rw [W, w2] at e
      rw [e] at h6
      refine Again.mk (k + 1, r - w k) [] [] [] ⟨by simp only []; omega, by simp only []; omega, ?_⟩ (by simp only []; omega) ?_
      · simp only [sumN]; omega
      · have e1 : IntKind.i64.wrap ((k : Int) + 1) = ((k + 1 : Nat) : Int) := wrap_in (by omega) (by omega)
        simp [st_szR, hbs, St.lowers, St.lower, stLe, leEnv, leObs, obLe, injB, pinC, AV.leC, AV.leCs, PV.leC, PV.Le_v, St.get, St.obj, look, rho, isNew, keptC, renH, Mode.ok, Mode.isZ, PV.isVal, PV.isNilSl, List.all_nil, List.all_cons, List.any_nil, List.any_cons, List.map_nil, List.map_cons, PV.Le_self, e1, e]
    · have : k = m := by omega
      subst this
      exact h3
/-! ### a copy -/
def in_toR (nn : Bool) (m : Nat) (w : Nat → Nat) (h : Nat → Nat → Int) := (G0, res105, ([] : List (Nat × Ob)), [Item.ir ir105], start [RL nn m w h] [])
theorem ev_toR : ∀ (nn : Bool) (m : Nat) (w : Nat → Nat) (h : Nat → Nat → Int), ev G0 res105 [] (3000 : Nat) Or.nil [Item.ir ir105] (start [RL nn m w h] []) = VC.need ((0 : Int) ≤ (↑m : Int) ∧ (↑m : Int) ≤ (↑m : Int) ∧ (↑(24 : Nat) : Int) * (↑m : Int) ≤ (281474976710656 : Int) ∧ (↑m : Int) ≤ (9223372036854775807 : Int)) (VC.loop ir105_L1 [Item.bend (0 : Nat), Item.ir ir105_T2] (St.mk [((0 : Nat), AV.p false (PV.sl nn (1 : Nat) m (RR w h))), ((2 : Nat), AV.p true (PV.v (Value.slice none (0 : Nat) (0 : Nat)))), ((3 : Nat), AV.own (7 : Nat)), ((4 : Nat), AV.p true (PV.v (Value.int IntKind.i64 (0 : Int))))] [((7 : Nat), Ob.row Mode.u true (1 : Nat) (↑m : Int).toNat (fun (x j : Nat) => PV.v ([Value.slice none (0 : Nat) (0 : Nat)].getD j undef)) [])])) := by intros; kernel_rfl
def st_toR (nn : Bool) (m : Nat) (w : Nat → Nat) (h : Nat → Nat → Int) (k : Nat) : St := ⟨[(0, RL nn m w h), (3, .own 7), (4, AI k)], [(7, .row .u true 1 m (RR (fun i => if i < k then w i else 0) h) [])]⟩
def r_toR (nn : Bool) (m : Nat) (w : Nat → Nat) (h : Nat → Nat → Int) (I : Nat → St → Prop) (k : Nat) := (G0, res105, ([] : List (Nat × Ob)), [Item.ir ir105_L1, .lend (I k), Item.bend 0, Item.ir ir105_T2], st_toR nn m w h k)
theorem evr_toR : ∀ (nn : Bool) (m : Nat) (w : Nat → Nat) (h : Nat → Nat → Int) (I : Nat → St → Prop) (k : Nat), ev G0 res105 [] (3000 : Nat) ((Or.call [] (AV.own (0 : Nat)) [((0 : Nat), Ob.row Mode.u true (1 : Nat) (w (↑k : Int).toNat) (fun (i x : Nat) => PI (h (↑k : Int).toNat i)) [])] Or.nil).split Or.nil) [Item.ir ir105_L1, Item.lend (I k), Item.bend (0 : Nat), Item.ir ir105_T2] (st_toR nn m w h k) = VC.split (decide ((↑k : Int) < (↑m : Int))) (VC.need ((0 : Int) ≤ (↑k : Int) ∧ (↑k : Int).toNat < m) (VC.call (154 : Nat) [AV.p false (PV.sl false (1 : Nat) (w (↑k : Int).toNat) fun (j x : Nat) => PI (h (↑k : Int).toNat j))] [] (AV.own (0 : Nat)) [((0 : Nat), Ob.row Mode.u true (1 : Nat) (w (↑k : Int).toNat) (fun (i x : Nat) => PI (h (↑k : Int).toNat i)) [])] (VC.need ((0 : Int) ≤ (↑k : Int) ∧ (↑k : Int).toNat < m) (VC.need ((↑k : Int).toNat < m) (VC.lend (I k) (St.mk [((0 : Nat), AV.p false (PV.sl nn (1 : Nat) m (RR w h))), ((3 : Nat), AV.own (7 : Nat)), ((4 : Nat), AV.p true (PV.v (Value.int IntKind.i64 (IntKind.i64.wrap ((↑k : Int) + (1 : Int)))))), ((11 : Nat), AV.p true (PV.v (Value.bool (decide ((↑k : Int) < (↑m : Int))))))] [((7 : Nat), Ob.row Mode.u true (1 : Nat) m (setG [((↑k : Int).toNat, (0 : Nat), PV.sl true (1 : Nat) (w (↑k : Int).toNat) fun (i x : Nat) => PI (h (↑k : Int).toNat i))] (RR (fun (i : Nat) => if i < k then w i else (0 : Nat)) h)) [])])))))) (VC.done (St.mk [((0 : Nat), AV.p false (PV.sl nn (1 : Nat) m (RR w h))), ((3 : Nat), AV.own (7 : Nat)), ((4 : Nat), AV.p true (PV.v (Value.int IntKind.i64 (↑k : Int)))), ((11 : Nat), AV.p true (PV.v (Value.bool (decide ((↑k : Int) < (↑m : Int)))))), ((2 : Nat), AV.own (7 : Nat))] [((7 : Nat), Ob.row Mode.u true (1 : Nat) m (RR (fun (i : Nat) => if i < k then w i else (0 : Nat)) h) [])])) := by intros; kernel_rfl
theorem c_toR (nn : Bool) (m : Nat) (w : Nat → Nat) (h : Nat → Nat → Int) (hm : m ≤ 1048576) (hw : ∀ i, i < m → w i ≤ 1048576) : PObj Tryd.prog G0 105 [RL nn m w h] [] (.own 0) [(0, .row .u true 1 m (RR w h) [])] := by
  refine PObj.by chk105 rfl (ev_toR nn m w h) ?_
  simp only [VC.holds_split, VC.holds_need, VC.holds_doneP, VC.holds_done, VC.holds_either, VC.holds_call, VC.holds_callE, VC.holds_lend, VC.holds_stop, VC.holds_fail, decide_eq_true_eq, decide_eq_false_iff_not]
  refine ⟨by omega, loop_by (st_toR nn m w h) (fun k => k ≤ m) (fun k => m - k) 0 [] [] [] (by omega) ?_ (evr_toR nn m w h) fun k hk => ?_⟩
  · simp [st_toR, hbs, St.lowers, St.lower, stLe, leEnv, leObs, obLe, injB, pinC, AV.leC, AV.leCs, PV.leC, PV.Le_v, St.get, St.obj, look, rho, isNew, keptC, renH, Mode.ok, Mode.isZ, PV.isVal, PV.isNilSl, List.all_nil, List.all_cons, List.any_nil, List.any_cons, List.map_nil, List.map_cons, PV.Le_self]
    exact fun i hi => PV.Le.nil _ _
  · simp only [VC.holds_split, VC.holds_need, VC.holds_doneP, VC.holds_done, VC.holds_either, VC.holds_call, VC.holds_callE, VC.holds_lend, VC.holds_stop, VC.holds_fail, decide_eq_true_eq, decide_eq_false_iff_not, Int.toNat_natCast]
    refine ⟨fun h0 => ⟨by omega, c_toIntS0 _ _ _ (hw k (by omega)), by omega, by omega, Again.mk (k + 1) [] [] [] (by omega) (by omega) ?_⟩, fun h0 => ?_⟩
    · have : IntKind.i64.wrap ((k : Int) + 1) = ((k + 1 : Nat) : Int) := wrap_in (by omega) (by omega)
      simp [st_toR, hbs, St.lowers, St.lower, stLe, leEnv, leObs, obLe, injB, pinC, AV.leC, AV.leCs, PV.leC, PV.Le_v, St.get, St.obj, look, rho, isNew, keptC, renH, Mode.ok, Mode.isZ, PV.isVal, PV.isNilSl, List.all_nil, List.all_cons, List.any_nil, List.any_cons, List.map_nil, List.map_cons, PV.Le_self, this]
      intro i hi
      by_cases h1 : i = k
      · subst h1
        simp [setG, cellSet]
        exact PV.Le_sl ⟨fun e => (by cases e), rfl, by simp, fun _ _ _ _ => .refl _⟩
      · have e2 : (i < k + 1) = (i < k) := by apply propext; omega
        simp [setG, cellSet, h1]
        exact RR_le (by simp only [e2]) (fun _ _ => rfl)
    · have : k = m := by omega
      subst this
      refine ResOk.mk [] [(0, 7)] [] _ _ ?_ ⟨rfl, rfl⟩
      simp [doneC, resOf, resAV, tup, pinR, PV.Le_self, hbs, St.lowers, St.lower, stLe, leEnv, leObs, obLe, injB, pinC, AV.leC, AV.leCs, PV.leC, PV.Le_v, St.get, St.obj, look, rho, isNew, keptC, renH, Mode.ok, Mode.isZ, PV.isVal, PV.isNilSl, List.all_nil, List.all_cons, List.any_nil, List.any_cons, List.map_nil, List.map_cons, res105]
      intro i hi
      exact RR_le (by simp [hi]) (fun _ _ => rfl)
/-! ### the same -/
def in_eqR (nn nn' : Bool) (m : Nat) (w : Nat → Nat) (h : Nat → Nat → Int) := (G0, res78, ([] : List (Nat × Ob)), [Item.ir ir78], start [RL nn m w h, RL nn' m w h] [])
theorem ev_eqR : ∀ (nn nn' : Bool) (m : Nat) (w : Nat → Nat) (h : Nat → Nat → Int), ev G0 res78 [] (3000 : Nat) (Or.nil.split Or.nil) [Item.ir ir78] (start [RL nn m w h, RL nn' m w h] []) = VC.split ((↑m : Int) != (↑m : Int)) (VC.doneP (AV.p true (PV.v (Value.bool false)))) (VC.loop ir78_L1 [Item.bend (0 : Nat), Item.ir ir78_T2] (St.mk [((0 : Nat), AV.p false (PV.sl nn (1 : Nat) m (RR w h))), ((1 : Nat), AV.p false (PV.sl nn' (1 : Nat) m (RR w h))), ((4 : Nat), AV.p true (PV.v (Value.bool false))), ((10 : Nat), AV.p true (PV.v (Value.bool ((↑m : Int) != (↑m : Int))))), ((5 : Nat), AV.p true (PV.v (Value.int IntKind.i64 (0 : Int))))] [])) := by intros; kernel_rfl
def st_eqR (nn nn' : Bool) (m : Nat) (w : Nat → Nat) (h : Nat → Nat → Int) (k : Nat) : St := ⟨[(0, RL nn m w h), (1, RL nn' m w h), (5, AI k)], []⟩
def r_eqR (nn nn' : Bool) (m : Nat) (w : Nat → Nat) (h : Nat → Nat → Int) (I : Nat → St → Prop) (k : Nat) := (G0, res78, ([] : List (Nat × Ob)), [Item.ir ir78_L1, .lend (I k), Item.bend 0, Item.ir ir78_T2], st_eqR nn nn' m w h k)
theorem evr_eqR : ∀ (nn nn' : Bool) (m : Nat) (w : Nat → Nat) (h : Nat → Nat → Int) (I : Nat → St → Prop) (k : Nat), ev G0 res78 [] (3000 : Nat) ((Or.call [] (AB true) [] Or.nil.lit).split Or.nil) [Item.ir ir78_L1, Item.lend (I k), Item.bend (0 : Nat), Item.ir ir78_T2] (st_eqR nn nn' m w h k) = VC.split (decide ((↑k : Int) < (↑m : Int))) (VC.need ((0 : Int) ≤ (↑k : Int) ∧ (↑k : Int).toNat < m) (VC.need ((0 : Int) ≤ (↑k : Int) ∧ (↑k : Int).toNat < m) (VC.call (143 : Nat) [AV.p false (PV.sl false (1 : Nat) (w (↑k : Int).toNat) fun (j x : Nat) => PI (h (↑k : Int).toNat j)), AV.p false (PV.sl false (1 : Nat) (w (↑k : Int).toNat) fun (j x : Nat) => PI (h (↑k : Int).toNat j))] [] (AB true) [] (VC.lend (I k) (St.mk [((0 : Nat), AV.p false (PV.sl nn (1 : Nat) m (RR w h))), ((1 : Nat), AV.p false (PV.sl nn' (1 : Nat) m (RR w h))), ((5 : Nat), AV.p true (PV.v (Value.int IntKind.i64 (IntKind.i64.wrap ((↑k : Int) + (1 : Int)))))), ((14 : Nat), AV.p true (PV.v (Value.bool (decide ((↑k : Int) < (↑m : Int)))))), ((26 : Nat), AV.p true (PV.v (Value.bool false)))] []))))) (VC.doneP (AV.p true (PV.v (Value.bool true)))) := by intros; kernel_rfl
theorem c_eqR (nn nn' : Bool) (m : Nat) (w : Nat → Nat) (h : Nat → Nat → Int) (hm : m ≤ 1048576000) (hw : ∀ i, i < m → w i ≤ 1048576000) : PRet Tryd.prog G0 78 [RL nn m w h, RL nn' m w h] (AB true) := by
  refine PRet.by chk78 (ev_eqR nn nn' m w h) ?_
  simp only [VC.holds_split, VC.holds_need, VC.holds_doneP, VC.holds_done, VC.holds_either, VC.holds_call, VC.holds_callE, VC.holds_lend, VC.holds_stop, VC.holds_fail, decide_eq_true_eq, decide_eq_false_iff_not]
  refine ⟨fun h => by simp at h, fun h0 => loop_by (st_eqR nn nn' m w h) (fun k => k ≤ m) (fun k => m - k) 0 [] [] [] (by omega) ?_ (evr_eqR nn nn' m w h) fun k hk => ?_⟩
  · simp [st_eqR, hbs, St.lowers, St.lower, stLe, leEnv, leObs, obLe, injB, pinC, AV.leC, AV.leCs, PV.leC, PV.Le_v, St.get, St.obj, look, rho, isNew, keptC, renH, Mode.ok, Mode.isZ, PV.isVal, PV.isNilSl, List.all_nil, List.all_cons, List.any_nil, List.any_cons, List.map_nil, List.map_cons, PV.Le_self]
  · simp only [VC.holds_split, VC.holds_need, VC.holds_doneP, VC.holds_done, VC.holds_either, VC.holds_call, VC.holds_callE, VC.holds_lend, VC.holds_stop, VC.holds_fail, decide_eq_true_eq, decide_eq_false_iff_not, Int.toNat_natCast]
    refine ⟨fun h1 => ⟨by omega, by omega, c_eqIntS0 _ _ _ _ (hw k (by omega)), Again.mk (k + 1) [] [] [] (by omega) (by omega) ?_⟩, fun h1 => ?_⟩
    · have : IntKind.i64.wrap ((k : Int) + 1) = ((k + 1 : Nat) : Int) := wrap_in (by omega) (by omega)
      simp [st_eqR, hbs, St.lowers, St.lower, stLe, leEnv, leObs, obLe, injB, pinC, AV.leC, AV.leCs, PV.leC, PV.Le_v, St.get, St.obj, look, rho, isNew, keptC, renH, Mode.ok, Mode.isZ, PV.isVal, PV.isNilSl, List.all_nil, List.all_cons, List.any_nil, List.any_cons, List.map_nil, List.map_cons, PV.Le_self, this]
    · simp
def in_mkR (nn : Bool) (m : Nat) (w : Nat → Nat) (h : Nat → Nat → Int) (v : Int) := (G0, res82, [(0, Ob.row .u nn 1 m (RR w h) [])], [Item.ir ir82], start [.own 0, AI v] [(0, Ob.row .u nn 1 m (RR w h) [])])
theorem ev_mkR : ∀ (nn : Bool) (m : Nat) (w : Nat → Nat) (h : Nat → Nat → Int) (v : Int), ev G0 res82 [((0 : Nat), Ob.row Mode.u nn (1 : Nat) m (RR w h) [])] (3000 : Nat) Or.nil [Item.ir ir82] (start [AV.own (0 : Nat), AI v] [((0 : Nat), Ob.row Mode.u nn (1 : Nat) m (RR w h) [])]) = VC.loop ir82_L1 [Item.bend (0 : Nat), Item.ir ir82_T2] (St.mk [((0 : Nat), AV.own (100000 : Nat)), ((1 : Nat), AV.p true (PV.v (Value.int IntKind.i64 v))), ((4 : Nat), AV.p true (PV.v (Value.int IntKind.i64 (0 : Int)))), ((5 : Nat), AV.p true (PV.v (Value.int IntKind.i64 (0 : Int))))] [((100000 : Nat), Ob.row Mode.u nn (1 : Nat) m (RR w h) [])]) := by intros; kernel_rfl
def mkH (w : Nat → Nat) (v : Int) : Nat → Nat → Int := fun i j => v + (sumN w i : Nat) + j
def st_mkR (nn : Bool) (m : Nat) (w : Nat → Nat) (h : Nat → Nat → Int) (v : Int) (k : Nat) : St := ⟨[(0, .own 100000), (1, AI (v + (sumN w k : Nat))), (5, AI k)], [(100000, .row .u nn 1 m (RR w fun i j => if i < k then mkH w v i j else h i j) [])]⟩
def r_mkR (nn : Bool) (m : Nat) (w : Nat → Nat) (h : Nat → Nat → Int) (v : Int) (I : Nat → St → Prop) (k : Nat) := (G0, res82, [(0, Ob.row .u nn 1 m (RR w h) [])], [Item.ir ir82_L1, .lend (I k), Item.bend 0, Item.ir ir82_T2], st_mkR nn m w h v k)
theorem evr_mkR : ∀ (nn : Bool) (m : Nat) (w : Nat → Nat) (h : Nat → Nat → Int) (v : Int) (I : Nat → St → Prop) (k : Nat), ev G0 res82 [((0 : Nat), Ob.row Mode.u nn (1 : Nat) m (RR w h) [])] (3000 : Nat) ((Or.call [(1015 : Nat)] (AI (v + (↑(sumN w k) : Int) + (↑(w (↑k : Int).toNat) : Int))) [((0 : Nat), Ob.row Mode.u false (1 : Nat) (w (↑k : Int).toNat) (fun (i x : Nat) => PI (v + (↑(sumN w k) : Int) + (↑i : Int))) [])] Or.nil).split Or.nil) [Item.ir ir82_L1, Item.lend (I k), Item.bend (0 : Nat), Item.ir ir82_T2] (st_mkR nn m w h v k) = VC.split (decide ((↑k : Int) < (↑m : Int))) (VC.need ((0 : Int) ≤ (↑k : Int) ∧ (↑k : Int).toNat < m) (VC.need ((↑k : Int).toNat < m) (VC.call (144 : Nat) [AV.own (0 : Nat), AV.p true (PV.v (Value.int IntKind.i64 (v + (↑(sumN w k) : Int))))] [((0 : Nat), Ob.row Mode.u false (1 : Nat) (w (↑k : Int).toNat) (fun (j x : Nat) => PI (if (↑k : Int).toNat < k then mkH w v (↑k : Int).toNat j else h (↑k : Int).toNat j)) [])] (AI (v + (↑(sumN w k) : Int) + (↑(w (↑k : Int).toNat) : Int))) [((0 : Nat), Ob.row Mode.u false (1 : Nat) (w (↑k : Int).toNat) (fun (i x : Nat) => PI (v + (↑(sumN w k) : Int) + (↑i : Int))) [])] (VC.lend (I k) (St.mk [((0 : Nat), AV.own (100000 : Nat)), ((1 : Nat), AV.p true (PV.v (Value.int IntKind.i64 (v + (↑(sumN w k) : Int) + (↑(w (↑k : Int).toNat) : Int))))), ((5 : Nat), AV.p true (PV.v (Value.int IntKind.i64 (IntKind.i64.wrap ((↑k : Int) + (1 : Int)))))), ((9 : Nat), AV.p true (PV.v (Value.bool (decide ((↑k : Int) < (↑m : Int))))))] [((100000 : Nat), Ob.row Mode.u nn (1 : Nat) m (cellSet (RR w fun (i j : Nat) => if i < k then mkH w v i j else h i j) (↑k : Int).toNat (nat_lit 0) (PV.sl false (1 : Nat) (w (↑k : Int).toNat) fun (i x : Nat) => PI (v + (↑(sumN w k) : Int) + (↑i : Int)))) [])]))))) (VC.done (St.mk [((0 : Nat), AV.own (100000 : Nat)), ((1 : Nat), AV.p true (PV.v (Value.int IntKind.i64 (v + (↑(sumN w k) : Int))))), ((5 : Nat), AV.p true (PV.v (Value.int IntKind.i64 (↑k : Int)))), ((9 : Nat), AV.p true (PV.v (Value.bool (decide ((↑k : Int) < (↑m : Int)))))), ((4 : Nat), AV.p true (PV.v (Value.int IntKind.i64 (v + (↑(sumN w k) : Int)))))] [((100000 : Nat), Ob.row Mode.u nn (1 : Nat) m (RR w fun (i j : Nat) => if i < k then mkH w v i j else h i j) [])])) := by intros; kernel_rfl
theorem c_mkR (nn : Bool) (m : Nat) (w : Nat → Nat) (h : Nat → Nat → Int) (v : Int) (hm : m ≤ 16777216) (hw : sumN w m ≤ 16777216) (hv1 : 0 ≤ v) (hv2 : v ≤ 536870912) : PObj Tryd.prog G0 82 [.own 0, AI v] [(0, Ob.row .u nn 1 m (RR w h) [])] (AI (v + (sumN w m : Nat))) [(0, Ob.row .u nn 1 m (RR w (mkH w v)) [])] := by
  refine PObj.by chk82 rfl (ev_mkR nn m w h v) ?_
  refine loop_by (st_mkR nn m w h v) (fun k => k ≤ m) (fun k => m - k) 0 [] [] [] (by omega) ?_ (evr_mkR nn m w h v) fun k hk => ?_
  · simp [st_mkR, hbs, St.lowers, St.lower, stLe, leEnv, leObs, obLe, injB, pinC, AV.leC, AV.leCs, PV.leC, PV.Le_v, St.get, St.obj, look, rho, isNew, keptC, renH, Mode.ok, Mode.isZ, PV.isVal, PV.isNilSl, List.all_nil, List.all_cons, List.any_nil, List.any_cons, List.map_nil, List.map_cons, PV.Le_self, hbs, sumN]
  · simp only [VC.holds_split, VC.holds_need, VC.holds_doneP, VC.holds_done, VC.holds_either, VC.holds_call, VC.holds_callE, VC.holds_lend, VC.holds_stop, VC.holds_fail, decide_eq_true_eq, decide_eq_false_iff_not, Int.toNat_natCast]
    refine ⟨fun h0 => ?_, fun h0 => ?_⟩
    · have h1 := sumN_le (w := w) (n := m) (i := k) (by omega)
      have h2 := sumN_mono (w := w) (n := m) (k := k) hk
      refine ⟨by omega, by omega, c_markIntS _ _ _ _ (by omega) (by omega) (by omega), Again.mk (k + 1) [] [] [] (by omega) (by omega) ?_⟩
      have e1 : IntKind.i64.wrap ((k : Int) + 1) = ((k + 1 : Nat) : Int) := wrap_in (by omega) (by omega)
      have e2 : v + (sumN w k : Int) + (w k : Int) = v + (sumN w (k + 1) : Nat) := by simp only [sumN]; omega
      simp [st_mkR, hbs, St.lowers, St.lower, stLe, leEnv, leObs, obLe, injB, pinC, AV.leC, AV.leCs, PV.leC, PV.Le_v, St.get, St.obj, look, rho, isNew, keptC, renH, Mode.ok, Mode.isZ, PV.isVal, PV.isNilSl, List.all_nil, List.all_cons, List.any_nil, List.any_cons, List.map_nil, List.map_cons, PV.Le_self, e1, e2, hbs]
      intro i hi
      by_cases h3 : i = k
      · subst h3
        simp [cellSet]
        exact PV.Le_sl ⟨fun e => (by cases e), rfl, rfl, fun _ _ _ _ => by simp [mkH, PV.Le_self]⟩
      · have e3 : (i < k + 1) = (i < k) := by apply propext; omega
        simp [cellSet, h3]
        exact RR_le rfl fun j hj => by simp only [e3]
    · have : k = m := by omega
      subst this
      refine ResOk.mk [] [(0, 100000)] [] _ _ ?_ ⟨rfl, rfl⟩
      simp [doneC, resOf, resAV, tup, pinR, PV.Le_self, hbs, St.lowers, St.lower, stLe, leEnv, leObs, obLe, injB, pinC, AV.leC, AV.leCs, PV.leC, PV.Le_v, St.get, St.obj, look, rho, isNew, keptC, renH, Mode.ok, Mode.isZ, PV.isVal, PV.isNilSl, List.all_nil, List.all_cons, List.any_nil, List.any_cons, List.map_nil, List.map_cons, res82, hbs]
      intro i hi
      exact RR_le rfl fun j hj => by simp [hi]
def in_hdR (nn : Bool) (m : Nat) (w : Nat → Nat) (v : Int) := (G0, res84, ([] : List (Nat × Ob)), [Item.ir ir84], start [RL nn m w (mkH w v), AI v] [])
theorem ev_hdR : ∀ (nn : Bool) (m : Nat) (w : Nat → Nat) (v : Int), ev G0 res84 [] (3000 : Nat) Or.nil [Item.ir ir84] (start [RL nn m w (mkH w v), AI v] []) = VC.loop ir84_L1 [Item.bend (0 : Nat), Item.ir ir84_T2] (St.mk [((0 : Nat), AV.p false (PV.sl nn (1 : Nat) m (RR w (mkH w v)))), ((1 : Nat), AV.p true (PV.v (Value.int IntKind.i64 v))), ((4 : Nat), AV.p true (PV.v (Value.int IntKind.i64 (0 : Int)))), ((5 : Nat), AV.p true (PV.v (Value.int IntKind.i64 (0 : Int))))] []) := by intros; kernel_rfl
def st_hdR (nn : Bool) (m : Nat) (w : Nat → Nat) (v : Int) (k : Nat) : St := ⟨[(0, RL nn m w (mkH w v)), (1, AI (v + (sumN w k : Nat))), (5, AI k)], []⟩
def r_hdR (nn : Bool) (m : Nat) (w : Nat → Nat) (v : Int) (I : Nat → St → Prop) (k : Nat) := (G0, res84, ([] : List (Nat × Ob)), [Item.ir ir84_L1, .lend (I k), Item.bend 0, Item.ir ir84_T2], st_hdR nn m w v k)
theorem evr_hdR : ∀ (nn : Bool) (m : Nat) (w : Nat → Nat) (v : Int) (I : Nat → St → Prop) (k : Nat), ev G0 res84 [] (3000 : Nat) ((Or.call [] (AI (v + (↑(sumN w k) : Int) + (↑(w (↑k : Int).toNat) : Int))) [] (Or.nil.split Or.nil)).split Or.nil) [Item.ir ir84_L1, Item.lend (I k), Item.bend (0 : Nat), Item.ir ir84_T2] (st_hdR nn m w v k) = VC.split (decide ((↑k : Int) < (↑m : Int))) (VC.need ((0 : Int) ≤ (↑k : Int) ∧ (↑k : Int).toNat < m) (VC.call (145 : Nat) [AV.p false (PV.sl false (1 : Nat) (w (↑k : Int).toNat) fun (j x : Nat) => PI (mkH w v (↑k : Int).toNat j)), AV.p true (PV.v (Value.int IntKind.i64 (v + (↑(sumN w k) : Int))))] [] (AI (v + (↑(sumN w k) : Int) + (↑(w (↑k : Int).toNat) : Int))) [] (VC.split (decide (v + (↑(sumN w k) : Int) + (↑(w (↑k : Int).toNat) : Int) < (0 : Int))) (VC.doneP (AV.p true (PV.v (Value.int IntKind.i64 (-1 : Int))))) (VC.lend (I k) (St.mk [((0 : Nat), AV.p false (PV.sl nn (1 : Nat) m (RR w (mkH w v)))), ((1 : Nat), AV.p true (PV.v (Value.int IntKind.i64 (v + (↑(sumN w k) : Int) + (↑(w (↑k : Int).toNat) : Int))))), ((5 : Nat), AV.p true (PV.v (Value.int IntKind.i64 (IntKind.i64.wrap ((↑k : Int) + (1 : Int)))))), ((9 : Nat), AV.p true (PV.v (Value.bool (decide ((↑k : Int) < (↑m : Int)))))), ((19 : Nat), AV.p true (PV.v (Value.bool (decide (v + (↑(sumN w k) : Int) + (↑(w (↑k : Int).toNat) : Int) < (0 : Int))))))] []))))) (VC.doneP (AV.p true (PV.v (Value.int IntKind.i64 (v + (↑(sumN w k) : Int)))))) := by intros; kernel_rfl
theorem c_hdR (nn : Bool) (m : Nat) (w : Nat → Nat) (v : Int) (hm : m ≤ 16777216) (hw : sumN w m ≤ 16777216) (hv1 : 0 ≤ v) (hv2 : v ≤ 536870912) : PRet Tryd.prog G0 84 [RL nn m w (mkH w v), AI v] (AI (v + (sumN w m : Nat))) := by
  refine PRet.by chk84 (ev_hdR nn m w v) ?_
  refine loop_by (st_hdR nn m w v) (fun k => k ≤ m) (fun k => m - k) 0 [] [] [] (by omega) ?_ (evr_hdR nn m w v) fun k hk => ?_
  · simp [st_hdR, hbs, St.lowers, St.lower, stLe, leEnv, leObs, obLe, injB, pinC, AV.leC, AV.leCs, PV.leC, PV.Le_v, St.get, St.obj, look, rho, isNew, keptC, renH, Mode.ok, Mode.isZ, PV.isVal, PV.isNilSl, List.all_nil, List.all_cons, List.any_nil, List.any_cons, List.map_nil, List.map_cons, PV.Le_self, sumN]
  · simp only [VC.holds_split, VC.holds_need, VC.holds_doneP, VC.holds_done, VC.holds_either, VC.holds_call, VC.holds_callE, VC.holds_lend, VC.holds_stop, VC.holds_fail, decide_eq_true_eq, decide_eq_false_iff_not, Int.toNat_natCast]
    refine ⟨fun h0 => ?_, fun h0 => ?_⟩
    · have h1 := sumN_le (w := w) (n := m) (i := k) (by omega)
      have h2 := sumN_mono (w := w) (n := m) (k := k) hk
      refine ⟨by omega, c_heldIntS _ _ _ _ (fun i hi => rfl) (by omega) (by omega) (by omega), fun h3 => by omega, fun h3 => Again.mk (k + 1) [] [] [] (by omega) (by omega) ?_⟩
      have e1 : IntKind.i64.wrap ((k : Int) + 1) = ((k + 1 : Nat) : Int) := wrap_in (by omega) (by omega)
      have e2 : v + (sumN w k : Int) + (w k : Int) = v + (sumN w (k + 1) : Nat) := by simp only [sumN]; omega
      simp [st_hdR, hbs, St.lowers, St.lower, stLe, leEnv, leObs, obLe, injB, pinC, AV.leC, AV.leCs, PV.leC, PV.Le_v, St.get, St.obj, look, rho, isNew, keptC, renH, Mode.ok, Mode.isZ, PV.isVal, PV.isNilSl, List.all_nil, List.all_cons, List.any_nil, List.any_cons, List.map_nil, List.map_cons, PV.Le_self, e1, e2]
    · have : k = m := by omega
      subst this
      simp
end Go.Gw
