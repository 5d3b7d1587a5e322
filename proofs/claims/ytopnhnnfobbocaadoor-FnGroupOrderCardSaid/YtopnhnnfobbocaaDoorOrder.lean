/- OrderRows, of the program and of the model; with no condition. -/
import Derived.Test.YtopnhnnfobbocaaDoorBag
import Derived.KernelRfl
namespace Go.Gw
open Go Go.Proofs
set_option linter.unusedSimpArgs false
set_option linter.unusedVariables false
set_option maxRecDepth 100000
def ir110_L1 : Ir :=
  (.seq
  (.seq
  (.reg [6, 7, 8] [o 6 (.mov (tt 5)),
    o 7 (.mov (tt 0)),
    o 8 (.len (tt 7)),
    o 9 (.bin .lss (tt 6) (tt 8))])
  (.cond (tt 9)
   .skip
   (.exit 0)))
  (.seq
  (.block 1
   (.seq
   (.reg [12, 13, 14, 15, 16] [o 12 (.mov (tt 0)),
     o 13 (.mov (tt 5)),
     o 14 (.idx 1 (tt 12) (tt 13)),
     o 15 (.load false 1 (tt 14)),
     o 16 (.mov (tt 1)),
     o 17 (.bin .eql (tt 15) (tt 16))])
   (.cond (tt 17)
    (.seq
    (.reg [18] [o 18 (.mov (tt 5)),
      o 4 (.mov (tt 18))])
    .ret)
    .skip)))
  (.reg [10, 11] [o 10 (.mov (tt 5)),
    o 11 (.bin .add (tt 10) (ci 1)),
    o 5 (.mov (tt 11))])))
def ir110_T2 : Ir :=
  (.seq
  (.reg [] [o 4 (.mov (ci (-1)))])
  .ret)
def ir110 : Ir :=
  (.seq
  (.reg [] [o 4 (.mov (ci 0))])
  (.seq
  (.seq
  (.reg [] [o 5 (.mov (ci 0))])
  (.block 0
   (.loop ir110_L1)))
  ir110_T2))
def keep110 : List Nat := [0, 1, 4, 5, 9, 17]
def res110 : List RI := [.tmp 4]
theorem chk110 : chk Tryd.prog 110 2 keep110 = some (ir110, res110) := by kernel_rfl
def ir155_L1 : Ir :=
  (.seq
  (.seq
  (.reg [6, 7, 8] [o 6 (.mov (tt 4)),
    o 7 (.mov (tt 0)),
    o 8 (.len (tt 7)),
    o 9 (.bin .lss (tt 6) (tt 8))])
  (.cond (tt 9)
   .skip
   (.exit 0)))
  (.seq
  (.block 1
   (.reg [12, 13, 14, 15, 16, 17, 18, 19, 20] [o 12 (.mov (tt 3)),
     o 13 (.mkSl 1 0 [(.int .i64 0)] []),
     o 14 (.mov (tt 0)),
     o 15 (.mov (tt 4)),
     o 16 (.idx 1 (tt 14) (tt 15)),
     o 17 (.load false 1 (tt 16)),
     o 18 (.app 1 8 true (tt 13) (tt 17)),
     o 19 (.mkSl 1 1 [(.slice none 0 0)] [(0, (tt 18))]),
     o 20 (.app 1 24 false (tt 12) (tt 19)),
     o 3 (.mov (tt 20))]))
  (.reg [10, 11] [o 10 (.mov (tt 4)),
    o 11 (.bin .add (tt 10) (ci 1)),
    o 4 (.mov (tt 11))])))
def ir155_T2 : Ir :=
  (.seq
  (.reg [21] [o 21 (.mov (tt 3)),
    o 2 (.mov (tt 21))])
  .ret)
def ir155 : Ir :=
  (.seq
  (.reg [] [o 2 (.mov (.const (.slice none 0 0)))])
  (.seq
  (.reg [5] [o 5 (.mkSl 1 0 [(.slice none 0 0)] []),
    o 3 (.mov (tt 5))])
  (.seq
  (.seq
  (.reg [] [o 4 (.mov (ci 0))])
  (.block 0
   (.loop ir155_L1)))
  ir155_T2)))
def keep155 : List Nat := [0, 2, 3, 4, 9]
def res155 : List RI := [.tmp 2]
theorem chk155 : chk Tryd.prog 155 1 keep155 = some (ir155, res155) := by kernel_rfl
def ir109 : Ir :=
  (.seq
  (.reg [] [o 1 (.box 2 (tt 0)),
    o 2 (.alloc [(.slice none 0 0), (.slice none 0 0)])])
  (.seq
  (.reg [4] [o 4 (.load true 2 (tt 1)),
    o 3 (.alloc [(.slice none 0 0), (.slice none 0 0)]),
    on (.store 2 (tt 3) (tt 4))])
  (.seq
  (.reg [5, 6, 7, 8, 9] [o 5 (.mkSl 1 0 [(.string ⟨#[]⟩)] []),
    o 6 (.fadr 0 (tt 1)),
    o 7 (.load false 1 (tt 6)),
    o 8 (.app 1 16 true (tt 5) (tt 7)),
    o 9 (.fadr 0 (tt 3)),
    on (.store 1 (tt 9) (tt 8))])
  (.seq
  (.reg [10, 11, 12, 13] [o 10 (.fadr 1 (tt 1)),
    o 11 (.load false 1 (tt 10)),
    o 12 (.call 155 [(tt 11)]),
    o 13 (.fadr 1 (tt 3)),
    on (.store 1 (tt 13) (tt 12))])
  (.seq
  (.reg [14] [o 14 (.load true 2 (tt 3)),
    on (.store 2 (tt 2) (tt 14))])
  .ret)))))
def keep109 : List Nat := [0, 1, 2, 3]
def res109 : List RI := [.cell true 2 2]
theorem chk109 : chk Tryd.prog 109 1 keep109 = some (ir109, res109) := by kernel_rfl
/-! ### columns -/
def colT (f : Nat → ByteArray) (x : ByteArray) : Nat → Int
  | 0 => -1
  | N + 1 => if 0 ≤ colT f x N then colT f x N else if (x.toList == (f N).toList) = true then (N : Int) else -1
theorem colT_lt (f : Nat → ByteArray) (x : ByteArray) : ∀ N, -1 ≤ colT f x N ∧ colT f x N < N
  | 0 => by simp [colT]
  | N + 1 => by
    have := colT_lt f x N
    simp only [colT]
    split
    · omega
    · split <;> omega
theorem colT_no {f : Nat → ByteArray} {x : ByteArray} : ∀ {N : Nat}, (∀ j, j < N → (x.toList == (f j).toList) = false) → colT f x N = -1
  | 0, _ => rfl
  | N + 1, h => by
    simp only [colT, colT_no (N := N) fun j hj => h j (by omega), h N (by omega)]
    simp
theorem colT_at {f : Nat → ByteArray} {x : ByteArray} {k : Nat} (hk : (x.toList == (f k).toList) = true) (h : ∀ j, j < k → (x.toList == (f j).toList) = false) : ∀ {N : Nat}, k < N → colT f x N = k
  | N + 1, hN => by
    by_cases h1 : k = N
    · subst h1
      simp only [colT, colT_no h, hk]
      simp
    · simp only [colT, colT_at (N := N) hk h (by omega)]
      rw [if_pos (by omega)]
theorem colT_has (f : Nat → ByteArray) (x : ByteArray) : ∀ N, decide (0 ≤ colT f x N) = hasT f x N
  | 0 => by simp [colT, hasT, allB]
  | N + 1 => by
    have ih := colT_has f x N
    simp only [hasT, allB] at ih ⊢
    simp only [colT]
    by_cases h : 0 ≤ colT f x N
    · simp only [h, if_true, decide_true] at ih ⊢
      rw [Bool.not_and, ← ih]; simp
    · simp only [h, if_false, decide_false] at ih ⊢
      rw [Bool.not_and, ← ih]
      by_cases h2 : (x.toList == (f N).toList) = true
      · simp [h2]
      · simp only [Bool.not_eq_true] at h2
        simp [h2]
theorem c_ixT (nn : Bool) (n : Nat) (f : Nat → ByteArray) (s : ByteArray) (hn : n ≤ 1048576) : PRet Tryd.prog G0 113 [TL nn n f, AT s] (AI (colT f s n)) := by
  refine PRet.by chk113 (ev_idxT nn n f s) ?_
  refine loop_by (st_idxT nn n f s) (fun k => k ≤ n ∧ ∀ j, j < k → (s.toList == (f j).toList) = false) (fun k => n - k) 0 [] [] [] (by simp) ?_ (evr_idxT nn n f s) fun k hk => ?_
  · simp [st_idxT, hbs, St.lowers, St.lower, stLe, leEnv, leObs, obLe, injB, pinC, AV.leC, AV.leCs, PV.leC, PV.Le_v, St.get, St.obj, look, rho, isNew, keptC, renH, Mode.ok, Mode.isZ, PV.isVal, PV.isNilSl, List.all_nil, List.all_cons, List.any_nil, List.any_cons, List.map_nil, List.map_cons, PV.Le_self]
  · obtain ⟨hk, hall⟩ := hk
    simp only [VC.holds_split, VC.holds_need, VC.holds_doneP, VC.holds_done, VC.holds_either, VC.holds_call, VC.holds_callE, VC.holds_lend, VC.holds_stop, VC.holds_fail, decide_eq_true_eq, decide_eq_false_iff_not, Int.toNat_natCast]
    refine ⟨fun h1 => ⟨by omega, fun h2 => ?_, fun h2 => Again.mk (k + 1) [] [] [] ⟨by omega, fun j hj => ?_⟩ (by omega) ?_⟩, fun h1 => ?_⟩
    · rw [colT_at h2 hall (by omega)]; simp
    · by_cases h3 : j = k
      · subst h3; exact h2
      · exact hall j (by omega)
    · have e1 : IntKind.i64.wrap ((k : Int) + 1) = ((k + 1 : Nat) : Int) := wrap_in (by omega) (by omega)
      simp only [e1, st_idxT]
      simp [hbs, St.lowers, St.lower, stLe, leEnv, leObs, obLe, injB, pinC, AV.leC, AV.leCs, PV.leC, PV.Le_v, St.get, St.obj, look, rho, isNew, keptC, renH, Mode.ok, Mode.isZ, PV.isVal, PV.isNilSl, List.all_nil, List.all_cons, List.any_nil, List.any_cons, List.map_nil, List.map_cons, PV.Le_self]
    · have : k = n := by omega
      subst this
      rw [colT_no hall]; simp
theorem ev_l1C : ∀ (nn : Bool) (n : Nat) (f : Nat → ByteArray) (s : ByteArray), ev G0 res110 [] (3000 : Nat) Or.nil [Item.ir ir110] (start [TL nn n f, AT s] []) = VC.loop ir110_L1 [Item.bend (0 : Nat), Item.ir ir110_T2] (St.mk [((0 : Nat), AV.p false (PV.sl nn (1 : Nat) n fun (i x : Nat) => PT (f i))), ((1 : Nat), AV.p true (PV.v (Value.string s))), ((4 : Nat), AV.p true (PV.v (Value.int IntKind.i64 (0 : Int)))), ((5 : Nat), AV.p true (PV.v (Value.int IntKind.i64 (0 : Int))))] []) := by intros; kernel_rfl
def st_l1C (nn : Bool) (n : Nat) (f : Nat → ByteArray) (s : ByteArray) (k : Nat) : St := ⟨[(0, TL nn n f), (1, AT s), (5, AI k)], []⟩
theorem evr_l1C : ∀ (nn : Bool) (n : Nat) (f : Nat → ByteArray) (s : ByteArray) (I : Nat → St → Prop) (k : Nat), ev G0 res110 [] (3000 : Nat) ((Or.nil.split Or.nil).split Or.nil) [Item.ir ir110_L1, Item.lend (I k), Item.bend (0 : Nat), Item.ir ir110_T2] (st_l1C nn n f s k) = VC.split (decide ((↑k : Int) < (↑n : Int))) (VC.need ((0 : Int) ≤ (↑k : Int) ∧ (↑k : Int).toNat < n) (VC.split ((f (↑k : Int).toNat).toList == s.toList) (VC.doneP (AV.p true (PV.v (Value.int IntKind.i64 (↑k : Int))))) (VC.lend (I k) (St.mk [((0 : Nat), AV.p false (PV.sl nn (1 : Nat) n fun (i x : Nat) => PT (f i))), ((1 : Nat), AV.p true (PV.v (Value.string s))), ((5 : Nat), AV.p true (PV.v (Value.int IntKind.i64 (IntKind.i64.wrap ((↑k : Int) + (1 : Int)))))), ((9 : Nat), AV.p true (PV.v (Value.bool (decide ((↑k : Int) < (↑n : Int)))))), ((17 : Nat), AV.p true (PV.v (Value.bool ((f (↑k : Int).toNat).toList == s.toList))))] [])))) (VC.doneP (AV.p true (PV.v (Value.int IntKind.i64 (-1 : Int))))) := by intros; kernel_rfl
/-! ### the order -/
/-! ### comparing by a column -/
theorem c_l1C (nn : Bool) (n : Nat) (f : Nat → ByteArray) (s : ByteArray) (hn : n ≤ 1048576) : PRet Tryd.prog G0 110 [TL nn n f, AT s] (AI (colT f s n)) := by
  refine PRet.by chk110 (ev_l1C nn n f s) ?_
  refine loop_by (st_l1C nn n f s) (fun k => k ≤ n ∧ ∀ j, j < k → (s.toList == (f j).toList) = false) (fun k => n - k) 0 [] [] [] (by simp) ?_ (evr_l1C nn n f s) fun k hk => ?_
  · simp [st_l1C, hbs, St.lowers, St.lower, stLe, leEnv, leObs, obLe, injB, pinC, AV.leC, AV.leCs, PV.leC, PV.Le_v, St.get, St.obj, look, rho, isNew, keptC, renH, Mode.ok, Mode.isZ, PV.isVal, PV.isNilSl, List.all_nil, List.all_cons, List.any_nil, List.any_cons, List.map_nil, List.map_cons, PV.Le_self]
  · obtain ⟨hk, hall⟩ := hk
    simp only [VC.holds_split, VC.holds_need, VC.holds_doneP, VC.holds_done, VC.holds_either, VC.holds_call, VC.holds_callE, VC.holds_lend, VC.holds_stop, VC.holds_fail, decide_eq_true_eq, decide_eq_false_iff_not, Int.toNat_natCast]
    refine ⟨fun h1 => ⟨by omega, fun h2 => ?_, fun h2 => Again.mk (k + 1) [] [] [] ⟨by omega, fun j hj => ?_⟩ (by omega) ?_⟩, fun h1 => ?_⟩
    · rw [colT_at (by rw [beq_swap]; exact h2) hall (by omega)]; simp
    · by_cases h3 : j = k
      · subst h3; rw [beq_swap]; exact h2
      · exact hall j (by omega)
    · have e1 : IntKind.i64.wrap ((k : Int) + 1) = ((k + 1 : Nat) : Int) := wrap_in (by omega) (by omega)
      simp only [e1, st_l1C]
      simp [hbs, St.lowers, St.lower, stLe, leEnv, leObs, obLe, injB, pinC, AV.leC, AV.leCs, PV.leC, PV.Le_v, St.get, St.obj, look, rho, isNew, keptC, renH, Mode.ok, Mode.isZ, PV.isVal, PV.isNilSl, List.all_nil, List.all_cons, List.any_nil, List.any_cons, List.map_nil, List.map_cons, PV.Le_self]
    · have : k = n := by omega
      subst this
      rw [colT_no hall]; simp
theorem tab_w {n : Nat} {f : Nat → ByteArray} {m : Nat} {w : Nat → Nat} {h : Nat → Nat → Int} (ht : tableB n f m w h = true) : ∀ i, i < m → w i = n := fun i hi => by
  simp only [tableB, rowsB, Bool.and_eq_true] at ht
  have := allB_iff.1 ht.2 i hi
  simp only [rowB, Bool.and_eq_true, decide_eq_true_eq] at this
  exact this.1
/-! ### the model's -/
theorem ev_ownR : ∀ (nn : Bool) (m : Nat) (w : Nat → Nat) (h : Nat → Nat → Int), ev G0 res155 [] (3000 : Nat) Or.nil [Item.ir ir155] (start [RL nn m w h] []) = VC.loop ir155_L1 [Item.bend (0 : Nat), Item.ir ir155_T2] (St.mk [((0 : Nat), AV.p false (PV.sl nn (1 : Nat) m (RR w h))), ((2 : Nat), AV.p true (PV.v (Value.slice none (0 : Nat) (0 : Nat)))), ((3 : Nat), AV.own (5 : Nat)), ((4 : Nat), AV.p true (PV.v (Value.int IntKind.i64 (0 : Int))))] [((5 : Nat), Ob.row Mode.u true (1 : Nat) (0 : Nat) (setG [] fun (x j : Nat) => PV.v ([Value.slice none (0 : Nat) (0 : Nat)].getD j undef)) [])]) := by intros; kernel_rfl
def st_ownR (nn : Bool) (m : Nat) (w : Nat → Nat) (h : Nat → Nat → Int) (k : Nat) : St := ⟨[(0, RL nn m w h), (3, .own 5), (4, AI k)], [(5, .row .u false 1 k (RR w h) [])]⟩
theorem evr_ownR : ∀ (nn : Bool) (m : Nat) (w : Nat → Nat) (h : Nat → Nat → Int) (I : Nat → St → Prop) (k : Nat), ev G0 res155 [] (3000 : Nat) (Or.nil.split Or.nil) [Item.ir ir155_L1, Item.lend (I k), Item.bend (0 : Nat), Item.ir ir155_T2] (st_ownR nn m w h k) = VC.split (decide ((↑k : Int) < (↑m : Int))) (VC.need ((0 : Int) ≤ (↑k : Int) ∧ (↑k : Int).toNat < m) (VC.need ((((0 : Nat) + w (↑k : Int).toNat) * (8 : Nat) ≤ (140737488355328 : Nat) ∧ (↑((0 : Nat) + w (↑k : Int).toNat) : Int) ≤ (9223372036854775807 : Int)) ∧ allV (1 : Nat) (w (↑k : Int).toNat) fun (j x : Nat) => PI (h (↑k : Int).toNat j)) (VC.need (((k + (1 : Nat)) * (24 : Nat) ≤ (140737488355328 : Nat) ∧ (↑(k + (1 : Nat)) : Int) ≤ (9223372036854775807 : Int)) ∧ allOne (1 : Nat) (1 : Nat) (setG [((0 : Nat), (0 : Nat), PV.sl true (1 : Nat) ((0 : Nat) + w (↑k : Int).toNat) fun (a b : Nat) => if a < (0 : Nat) then setG [] (fun (x j : Nat) => PV.v ([Value.int IntKind.i64 (0 : Int)].getD j undef)) a b else PI (h (↑k : Int).toNat (a - (0 : Nat))))] fun (x j : Nat) => PV.v ([Value.slice none (0 : Nat) (0 : Nat)].getD j undef))) (VC.lend (I k) (St.mk [((0 : Nat), AV.p false (PV.sl nn (1 : Nat) m (RR w h))), ((3 : Nat), AV.own (20 : Nat)), ((4 : Nat), AV.p true (PV.v (Value.int IntKind.i64 (IntKind.i64.wrap ((↑k : Int) + (1 : Int)))))), ((9 : Nat), AV.p true (PV.v (Value.bool (decide ((↑k : Int) < (↑m : Int))))))] [((20 : Nat), Ob.row Mode.u false (1 : Nat) (k + (1 : Nat)) (fun (a b : Nat) => if a < k then RR w h a b else setG [((0 : Nat), (0 : Nat), PV.sl true (1 : Nat) ((0 : Nat) + w (↑k : Int).toNat) fun (a_1 b_1 : Nat) => if a_1 < (0 : Nat) then setG [] (fun (x j : Nat) => PV.v ([Value.int IntKind.i64 (0 : Int)].getD j undef)) a_1 b_1 else PI (h (↑k : Int).toNat (a_1 - (0 : Nat))))] (fun (x j : Nat) => PV.v ([Value.slice none (0 : Nat) (0 : Nat)].getD j undef)) (a - k) b) [])]))))) (VC.done (St.mk [((0 : Nat), AV.p false (PV.sl nn (1 : Nat) m (RR w h))), ((3 : Nat), AV.own (5 : Nat)), ((4 : Nat), AV.p true (PV.v (Value.int IntKind.i64 (↑k : Int)))), ((9 : Nat), AV.p true (PV.v (Value.bool (decide ((↑k : Int) < (↑m : Int)))))), ((2 : Nat), AV.own (5 : Nat))] [((5 : Nat), Ob.row Mode.u false (1 : Nat) k (RR w h) [])])) := by intros; kernel_rfl
theorem c_ownR (nn : Bool) (m : Nat) (w : Nat → Nat) (h : Nat → Nat → Int) (hm : m ≤ 1048576) (hw : ∀ i, i < m → w i ≤ 1048576) : PObj Tryd.prog G0 155 [RL nn m w h] [] (.own 0) [(0, .row .u false 1 m (RR w h) [])] := by
  refine PObj.by chk155 rfl (ev_ownR nn m w h) ?_
  refine loop_by (st_ownR nn m w h) (fun k => k ≤ m) (fun k => m - k) 0 [] [] [] (by omega) ?_ (evr_ownR nn m w h) fun k hk => ?_
  · simp [st_ownR, hbs, St.lowers, St.lower, stLe, leEnv, leObs, obLe, injB, pinC, AV.leC, AV.leCs, PV.leC, PV.Le_v, St.get, St.obj, look, rho, isNew, keptC, renH, Mode.ok, Mode.isZ, PV.isVal, PV.isNilSl, List.all_nil, List.all_cons, List.any_nil, List.any_cons, List.map_nil, List.map_cons, PV.Le_self]
  · simp only [VC.holds_split, VC.holds_need, VC.holds_doneP, VC.holds_done, VC.holds_either, VC.holds_call, VC.holds_callE, VC.holds_lend, VC.holds_stop, VC.holds_fail, decide_eq_true_eq, decide_eq_false_iff_not, Int.toNat_natCast]
    refine ⟨fun h0 => ?_, fun h0 => ?_⟩
    · have hwk := hw k (by omega)
      refine ⟨by omega, ⟨by omega, fun _ _ _ _ => rfl⟩, ⟨by omega, ?_⟩, Again.mk (k + 1) [] [(5, 20)] [] (by omega) (by omega) ?_⟩
      · intro i j hi hj
        obtain rfl : i = 0 := by omega
        obtain rfl : j = 0 := by omega
        rfl
      · have : IntKind.i64.wrap ((k : Int) + 1) = ((k + 1 : Nat) : Int) := wrap_in (by omega) (by omega)
        simp [st_ownR, hbs, St.lowers, St.lower, stLe, leEnv, leObs, obLe, injB, pinC, AV.leC, AV.leCs, PV.leC, PV.Le_v, St.get, St.obj, look, rho, isNew, keptC, renH, Mode.ok, Mode.isZ, PV.isVal, PV.isNilSl, List.all_nil, List.all_cons, List.any_nil, List.any_cons, List.map_nil, List.map_cons, PV.Le_self, this]
        intro i hi
        by_cases h1 : i < k
        · simp [h1]; exact RR_le rfl (fun _ _ => rfl)
        · obtain rfl : i = k := by omega
          simp [setG, cellSet]
          exact .sl _ _ (fun e => (by cases e)) _ _ _ _ _ rfl fun j l hj hl => .refl _
    · have : k = m := by omega
      subst this
      refine ResOk.mk [] [(0, 5)] [] _ _ ?_ ⟨rfl, rfl⟩
      simp [doneC, resOf, resAV, tup, pinR, PV.Le_self, hbs, St.lowers, St.lower, stLe, leEnv, leObs, obLe, injB, pinC, AV.leC, AV.leCs, PV.leC, PV.Le_v, St.get, St.obj, look, rho, isNew, keptC, renH, Mode.ok, Mode.isZ, PV.isVal, PV.isNilSl, List.all_nil, List.all_cons, List.any_nil, List.any_cons, List.map_nil, List.map_cons, res155]
theorem ev_ownT : ∀ (n : Nat) (f : Nat → ByteArray) (m : Nat) (w : Nat → Nat) (h : Nat → Nat → Int), ev G0 res109 [] (3000 : Nat) (Or.call [] (AV.own (0 : Nat)) [((0 : Nat), Ob.row Mode.u false (1 : Nat) m (RR w h) [])] Or.nil) [Item.ir ir109] (start [TA false false n f m w h] []) = VC.need ((((0 : Nat) + n) * (16 : Nat) ≤ (140737488355328 : Nat) ∧ (↑((0 : Nat) + n) : Int) ≤ (9223372036854775807 : Int)) ∧ allV (1 : Nat) n fun (i x : Nat) => PT (f i)) (VC.call (155 : Nat) [AV.p false (PV.sl false (1 : Nat) m (RR w h))] [] (AV.own (0 : Nat)) [((0 : Nat), Ob.row Mode.u false (1 : Nat) m (RR w h) [])] (VC.done (St.mk [((0 : Nat), AV.ag [AV.p false (PV.sl false (1 : Nat) n fun (i x : Nat) => PT (f i)), AV.p false (PV.sl false (1 : Nat) m (RR w h))]), ((1 : Nat), AV.adr (1 : Nat) (0 : Nat)), ((2 : Nat), AV.adr (2 : Nat) (0 : Nat)), ((3 : Nat), AV.adr (3 : Nat) (0 : Nat))] [((1 : Nat), Ob.box [AV.p false (PV.sl false (1 : Nat) n fun (i x : Nat) => PT (f i)), AV.p false (PV.sl false (1 : Nat) m (RR w h))]), ((2 : Nat), Ob.box [AV.own (8 : Nat), AV.own (1012 : Nat)]), ((3 : Nat), Ob.box [AV.own (8 : Nat), AV.own (1012 : Nat)]), ((8 : Nat), Ob.row Mode.u true (1 : Nat) ((0 : Nat) + n) (fun (a b : Nat) => if a < (0 : Nat) then setG [] (fun (x j : Nat) => PV.v ([Value.string (ByteArray.mk #[])].getD j undef)) a b else PT (f (a - (0 : Nat)))) []), ((1012 : Nat), Ob.row Mode.u false (1 : Nat) m (RR w h) [])]))) := by intros; kernel_rfl
theorem c_ownT (n : Nat) (f : Nat → ByteArray) (m : Nat) (w : Nat → Nat) (h : Nat → Nat → Int) (hn : n ≤ 1048576) (hm : m ≤ 1048576) (hw : ∀ i, i < m → w i ≤ 1048576) : PObj Tryd.prog G0 109 [TA false false n f m w h] [] taR (taH n f m w h) := by
  refine PObj.by chk109 rfl (ev_ownT n f m w h) ?_
  simp only [VC.holds_split, VC.holds_need, VC.holds_doneP, VC.holds_done, VC.holds_either, VC.holds_call, VC.holds_callE, VC.holds_lend, VC.holds_stop, VC.holds_fail, decide_eq_true_eq, decide_eq_false_iff_not]
  refine ⟨⟨by omega, fun _ _ _ _ => rfl⟩, c_ownR _ _ _ _ hm hw, ResOk.mk [] [(0, 8), (1, 1012)] [] _ _ ?_ ⟨rfl, rfl⟩⟩
  simp [doneC, resOf, resAV, tup, pinR, PV.Le_self, hbs, St.lowers, St.lower, stLe, leEnv, leObs, obLe, injB, pinC, AV.leC, AV.leCs, PV.leC, PV.Le_v, St.get, St.obj, look, rho, isNew, keptC, renH, Mode.ok, Mode.isZ, PV.isVal, PV.isNilSl, List.all_nil, List.all_cons, List.any_nil, List.any_cons, List.map_nil, List.map_cons, res109]
abbrev nilT : AV := .p true (.v (.slice none 0 0))
end Go.Gw
