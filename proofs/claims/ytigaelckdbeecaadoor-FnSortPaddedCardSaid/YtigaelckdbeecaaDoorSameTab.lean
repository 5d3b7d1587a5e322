/- Tables compared by the laws; with no condition. -/
import Derived.Test.YtigaelckdbeecaaDoorSortRows
import Derived.Test.YtigaelckdbeecaaDoorSame
import Derived.KernelRfl
namespace Go.Gw
open Go Go.Proofs
set_option linter.unusedSimpArgs false
set_option linter.unusedVariables false
set_option maxRecDepth 100000
def ir29_L1 : Ir :=
  (.seq
  (.seq
  (.reg [11, 12, 13] [o 11 (.mov (tt 5)),
    o 12 (.mov (tt 0)),
    o 13 (.len (tt 12)),
    o 14 (.bin .lss (tt 11) (tt 13))])
  (.cond (tt 14)
   .skip
   (.exit 0)))
  (.seq
  (.block 1
   (.seq
   (.dreg [17, 18, 19, 20, 21, 22, 23, 24] [0, 0, 3, 7, 0, 0, 48, 112, 255] [(3, 1020), (7, 1024)] [o 17 (.mov (tt 0)),
     o 18 (.mov (tt 5)),
     o 19 (.idx 1 (tt 17) (tt 18)),
     o 20 (.load false 1 (tt 19)),
     o 21 (.mov (tt 1)),
     o 22 (.mov (tt 5)),
     o 23 (.idx 1 (tt 21) (tt 22)),
     o 24 (.load false 1 (tt 23)),
     o 25 (.bin .neq (tt 20) (tt 24))])
   (.cond (tt 25)
    (.seq
    (.reg [] [o 4 (.mov (cb false))])
    .ret)
    .skip)))
  (.reg [15, 16] [o 15 (.mov (tt 5)),
    o 16 (.bin .add (tt 15) (ci 1)),
    o 5 (.mov (tt 16))])))
def ir29_T2 : Ir :=
  (.seq
  (.reg [] [o 4 (.mov (cb true))])
  .ret)
def ir29 : Ir :=
  (.seq
  (.reg [] [o 4 (.mov (cb false))])
  (.seq
  (.seq
  (.reg [6, 7, 8, 9] [o 6 (.mov (tt 0)),
    o 7 (.len (tt 6)),
    o 8 (.mov (tt 1)),
    o 9 (.len (tt 8)),
    o 10 (.bin .neq (tt 7) (tt 9))])
  (.cond (tt 10)
   (.seq
   (.reg [] [o 4 (.mov (cb false))])
   .ret)
   .skip))
  (.seq
  (.seq
  (.reg [] [o 5 (.mov (ci 0))])
  (.block 0
   (.loop ir29_L1)))
  ir29_T2)))
def keep29 : List Nat := [0, 1, 4, 5, 10, 14, 25]
def res29 : List RI := [.tmp 4]
theorem chk29 : chk Tryd.prog 29 2 keep29 = some (ir29, res29) := by kernel_rfl
def ir30_L1 : Ir :=
  (.seq
  (.seq
  (.reg [11, 12, 13] [o 11 (.mov (tt 5)),
    o 12 (.mov (tt 0)),
    o 13 (.len (tt 12)),
    o 14 (.bin .lss (tt 11) (tt 13))])
  (.cond (tt 14)
   .skip
   (.exit 0)))
  (.seq
  (.block 1
   (.seq
   (.dreg [17, 18, 19, 20, 21, 22, 23, 24, 25] [0, 0, 3, 7, 0, 0, 48, 112, 255, 511] [(3, 1020), (7, 1024), (8, 1025), (8, 2025), (8, 3025), (8, 4025), (8, 5025), (8, 6025), (8, 7025), (8, 8025)] [o 17 (.mov (tt 0)),
     o 18 (.mov (tt 5)),
     o 19 (.idx 1 (tt 17) (tt 18)),
     o 20 (.load false 1 (tt 19)),
     o 21 (.mov (tt 1)),
     o 22 (.mov (tt 5)),
     o 23 (.idx 1 (tt 21) (tt 22)),
     o 24 (.load false 1 (tt 23)),
     o 25 (.call 61 [(tt 20), (tt 24)]),
     o 26 (.un .not (tt 25))])
   (.cond (tt 26)
    (.seq
    (.reg [] [o 4 (.mov (cb false))])
    .ret)
    .skip)))
  (.reg [15, 16] [o 15 (.mov (tt 5)),
    o 16 (.bin .add (tt 15) (ci 1)),
    o 5 (.mov (tt 16))])))
def ir30_T2 : Ir :=
  (.seq
  (.reg [] [o 4 (.mov (cb true))])
  .ret)
def ir30 : Ir :=
  (.seq
  (.reg [] [o 4 (.mov (cb false))])
  (.seq
  (.seq
  (.reg [6, 7, 8, 9] [o 6 (.mov (tt 0)),
    o 7 (.len (tt 6)),
    o 8 (.mov (tt 1)),
    o 9 (.len (tt 8)),
    o 10 (.bin .neq (tt 7) (tt 9))])
  (.cond (tt 10)
   (.seq
   (.reg [] [o 4 (.mov (cb false))])
   .ret)
   .skip))
  (.seq
  (.seq
  (.reg [] [o 5 (.mov (ci 0))])
  (.block 0
   (.loop ir30_L1)))
  ir30_T2)))
def keep30 : List Nat := [0, 1, 4, 5, 10, 14, 26]
def res30 : List RI := [.tmp 4]
theorem chk30 : chk Tryd.prog 30 2 keep30 = some (ir30, res30) := by kernel_rfl
def ir15 : Ir :=
  (.seq
  (.reg [] [o 2 (.box 2 (tt 0)),
    o 3 (.box 2 (tt 1)),
    o 4 (.mov (cb false))])
  (.seq
  (.reg [5, 6, 7, 8, 9, 10, 11, 12, 13, 14, 15, 16] [o 5 (.fadr 0 (tt 2)),
    o 6 (.load false 1 (tt 5)),
    o 7 (.fadr 0 (tt 3)),
    o 8 (.load false 1 (tt 7)),
    o 9 (.call 29 [(tt 6), (tt 8)]),
    o 10 (.mov (tt 9)),
    og 11 10 true (.fadr 1 (tt 2)),
    og 12 10 true (.load false 1 (tt 11)),
    og 13 10 true (.fadr 1 (tt 3)),
    og 14 10 true (.load false 1 (tt 13)),
    og 15 10 true (.call 30 [(tt 12), (tt 14)]),
    o 16 (.pick (tt 10) (tt 15) (cb false)),
    o 4 (.mov (tt 16))])
  .ret))
def keep15 : List Nat := [0, 1, 2, 3, 4]
def res15 : List RI := [.tmp 4]
theorem chk15 : chk Tryd.prog 15 2 keep15 = some (ir15, res15) := by kernel_rfl

theorem c_sIn (nn nn' : Bool) (n : Nat) (f : Nat → Int) (m : Nat) (g : Nat → Int) (hn : n ≤ 1048576) : PRet Tryd.prog G0 61 [IL nn n f, IL nn' m g] (AB (rowL n f 0 == rowL m g 0)) := by
  rw [← sameV_eq]
  exact c_same0 nn nn' n f m g (by omega)
theorem ev_sTx : ∀ (nn nn' : Bool) (n : Nat) (f : Nat → ByteArray) (m : Nat) (g : Nat → ByteArray), ev G0 res29 [] (3000 : Nat) (Or.nil.split Or.nil) [Item.ir ir29] (start [TL nn n f, TL nn' m g] []) = VC.split ((↑n : Int) != (↑m : Int)) (VC.doneP (AV.p true (PV.v (Value.bool false)))) (VC.loop ir29_L1 [Item.bend (0 : Nat), Item.ir ir29_T2] (St.mk [((0 : Nat), AV.p false (PV.sl nn (1 : Nat) n fun (i x : Nat) => PT (f i))), ((1 : Nat), AV.p false (PV.sl nn' (1 : Nat) m fun (i x : Nat) => PT (g i))), ((4 : Nat), AV.p true (PV.v (Value.bool false))), ((10 : Nat), AV.p true (PV.v (Value.bool ((↑n : Int) != (↑m : Int))))), ((5 : Nat), AV.p true (PV.v (Value.int IntKind.i64 (0 : Int))))] [])) := by intros; kernel_rfl
def st_sTx (nn nn' : Bool) (n : Nat) (f : Nat → ByteArray) (m : Nat) (g : Nat → ByteArray) (k : Nat) : St := ⟨[(0, TL nn n f), (1, TL nn' m g), (5, AI k)], []⟩
theorem evr_sTx : ∀ (nn nn' : Bool) (n : Nat) (f : Nat → ByteArray) (m : Nat) (g : Nat → ByteArray) (I : Nat → St → Prop) (k : Nat), ev G0 res29 [] (3000 : Nat) ((Or.nil.split Or.nil).split Or.nil) [Item.ir ir29_L1, Item.lend (I k), Item.bend (0 : Nat), Item.ir ir29_T2] (st_sTx nn nn' n f m g k) = VC.split (decide ((↑k : Int) < (↑n : Int))) (VC.need ((0 : Int) ≤ (↑k : Int) ∧ (↑k : Int).toNat < n) (VC.need ((0 : Int) ≤ (↑k : Int) ∧ (↑k : Int).toNat < m) (VC.split (!(f (↑k : Int).toNat).toList == (g (↑k : Int).toNat).toList) (VC.doneP (AV.p true (PV.v (Value.bool false)))) (VC.lend (I k) (St.mk [((0 : Nat), AV.p false (PV.sl nn (1 : Nat) n fun (i x : Nat) => PT (f i))), ((1 : Nat), AV.p false (PV.sl nn' (1 : Nat) m fun (i x : Nat) => PT (g i))), ((5 : Nat), AV.p true (PV.v (Value.int IntKind.i64 (IntKind.i64.wrap ((↑k : Int) + (1 : Int)))))), ((14 : Nat), AV.p true (PV.v (Value.bool (decide ((↑k : Int) < (↑n : Int)))))), ((25 : Nat), AV.p true (PV.v (Value.bool !(f (↑k : Int).toNat).toList == (g (↑k : Int).toNat).toList)))] []))))) (VC.doneP (AV.p true (PV.v (Value.bool true)))) := by intros; kernel_rfl
theorem c_sTx (nn nn' : Bool) (n : Nat) (f : Nat → ByteArray) (m : Nat) (g : Nat → ByteArray) (hn : n ≤ 1048576) : PRet Tryd.prog G0 29 [TL nn n f, TL nn' m g] (AB (sameT n f m g)) := by
  refine PRet.by chk29 (ev_sTx nn nn' n f m g) ?_
  simp only [VC.holds_split, VC.holds_need, VC.holds_doneP, VC.holds_done, VC.holds_either, VC.holds_call, VC.holds_callE, VC.holds_lend, VC.holds_stop, VC.holds_fail, decide_eq_true_eq, decide_eq_false_iff_not]
  refine ⟨fun h => ?_, fun h => ?_⟩
  · have : ¬ n = m := by simp at h; omega
    simp [sameT, this]
  have hnm : n = m := by simp at h; omega
  subst hnm
  refine loop_by (st_sTx nn nn' n f n g) (fun k => k ≤ n ∧ ∀ j, j < k → ((f j).toList == (g j).toList) = true) (fun k => n - k) 0 [] [] [] (by simp) ?_ (evr_sTx nn nn' n f n g) fun k hk => ?_
  · simp [st_sTx, hbs, St.lowers, St.lower, stLe, leEnv, leObs, obLe, injB, pinC, AV.leC, AV.leCs, PV.leC, PV.Le_v, St.get, St.obj, look, rho, isNew, keptC, renH, Mode.ok, Mode.isZ, PV.isVal, PV.isNilSl, List.all_nil, List.all_cons, List.any_nil, List.any_cons, List.map_nil, List.map_cons, PV.Le_self]
  · obtain ⟨hk, hall⟩ := hk
    simp only [VC.holds_split, VC.holds_need, VC.holds_doneP, VC.holds_done, VC.holds_either, VC.holds_call, VC.holds_callE, VC.holds_lend, VC.holds_stop, VC.holds_fail, decide_eq_true_eq, decide_eq_false_iff_not, Int.toNat_natCast]
    refine ⟨fun h1 => ⟨by omega, by omega, fun h2 => ?_, fun h2 => Again.mk (k + 1) [] [] [] ⟨by omega, fun j hj => ?_⟩ (by omega) ?_⟩, fun h1 => ?_⟩
    · have h3 : ((f k).toList == (g k).toList) = false := by simpa using h2
      simp [sameT, allB_no (p := fun i => (f i).toList == (g i).toList) (show k < n by omega) h3]
    · by_cases h3 : j = k
      · subst h3; simpa using h2
      · exact hall j (by omega)
    · have e1 : IntKind.i64.wrap ((k : Int) + 1) = ((k + 1 : Nat) : Int) := wrap_in (by omega) (by omega)
      simp only [e1, st_sTx]
      simp [hbs, St.lowers, St.lower, stLe, leEnv, leObs, obLe, injB, pinC, AV.leC, AV.leCs, PV.leC, PV.Le_v, St.get, St.obj, look, rho, isNew, keptC, renH, Mode.ok, Mode.isZ, PV.isVal, PV.isNilSl, List.all_nil, List.all_cons, List.any_nil, List.any_cons, List.map_nil, List.map_cons, PV.Le_self]
    · have : k = n := by omega
      subst this
      have : allB (fun i => (f i).toList == (g i).toList) k = true := allB_iff.2 hall
      simp [sameT, this]
theorem ev_sRw : ∀ (nn nn' : Bool) (m : Nat) (w : Nat → Nat) (h : Nat → Nat → Int) (m' : Nat) (w' : Nat → Nat) (h' : Nat → Nat → Int), ev G0 res30 [] (3000 : Nat) (Or.nil.split Or.nil) [Item.ir ir30] (start [RL nn m w h, RL nn' m' w' h'] []) = VC.split ((↑m : Int) != (↑m' : Int)) (VC.doneP (AV.p true (PV.v (Value.bool false)))) (VC.loop ir30_L1 [Item.bend (0 : Nat), Item.ir ir30_T2] (St.mk [((0 : Nat), AV.p false (PV.sl nn (1 : Nat) m (RR w h))), ((1 : Nat), AV.p false (PV.sl nn' (1 : Nat) m' (RR w' h'))), ((4 : Nat), AV.p true (PV.v (Value.bool false))), ((10 : Nat), AV.p true (PV.v (Value.bool ((↑m : Int) != (↑m' : Int))))), ((5 : Nat), AV.p true (PV.v (Value.int IntKind.i64 (0 : Int))))] [])) := by intros; kernel_rfl
def st_sRw (nn nn' : Bool) (m : Nat) (w : Nat → Nat) (h : Nat → Nat → Int) (w' : Nat → Nat) (h' : Nat → Nat → Int) (k : Nat) : St := ⟨[(0, RL nn m w h), (1, RL nn' m w' h'), (5, AI k)], []⟩
theorem evr_sRw : ∀ (nn nn' : Bool) (m : Nat) (w : Nat → Nat) (h : Nat → Nat → Int) (w' : Nat → Nat) (h' : Nat → Nat → Int) (I : Nat → St → Prop) (k : Nat), ev G0 res30 [] (3000 : Nat) ((Or.call [] (AB (rowL (w (↑k : Int).toNat) (h (↑k : Int).toNat) (0 : Nat) == rowL (w' (↑k : Int).toNat) (h' (↑k : Int).toNat) (0 : Nat))) [] (Or.nil.split Or.nil)).split Or.nil) [Item.ir ir30_L1, Item.lend (I k), Item.bend (0 : Nat), Item.ir ir30_T2] (st_sRw nn nn' m w h w' h' k) = VC.split (decide ((↑k : Int) < (↑m : Int))) (VC.need ((0 : Int) ≤ (↑k : Int) ∧ (↑k : Int).toNat < m) (VC.need ((0 : Int) ≤ (↑k : Int) ∧ (↑k : Int).toNat < m) (VC.call (61 : Nat) [AV.p false (PV.sl false (1 : Nat) (w (↑k : Int).toNat) fun (j x : Nat) => PI (h (↑k : Int).toNat j)), AV.p false (PV.sl false (1 : Nat) (w' (↑k : Int).toNat) fun (j x : Nat) => PI (h' (↑k : Int).toNat j))] [] (AB (rowL (w (↑k : Int).toNat) (h (↑k : Int).toNat) (0 : Nat) == rowL (w' (↑k : Int).toNat) (h' (↑k : Int).toNat) (0 : Nat))) [] (VC.split (!rowL (w (↑k : Int).toNat) (h (↑k : Int).toNat) (0 : Nat) == rowL (w' (↑k : Int).toNat) (h' (↑k : Int).toNat) (0 : Nat)) (VC.doneP (AV.p true (PV.v (Value.bool false)))) (VC.lend (I k) (St.mk [((0 : Nat), AV.p false (PV.sl nn (1 : Nat) m (RR w h))), ((1 : Nat), AV.p false (PV.sl nn' (1 : Nat) m (RR w' h'))), ((5 : Nat), AV.p true (PV.v (Value.int IntKind.i64 (IntKind.i64.wrap ((↑k : Int) + (1 : Int)))))), ((14 : Nat), AV.p true (PV.v (Value.bool (decide ((↑k : Int) < (↑m : Int)))))), ((26 : Nat), AV.p true (PV.v (Value.bool !rowL (w (↑k : Int).toNat) (h (↑k : Int).toNat) (0 : Nat) == rowL (w' (↑k : Int).toNat) (h' (↑k : Int).toNat) (0 : Nat))))] [])))))) (VC.doneP (AV.p true (PV.v (Value.bool true)))) := by intros; kernel_rfl
theorem c_sRw (nn nn' : Bool) (m : Nat) (w : Nat → Nat) (h : Nat → Nat → Int) (m' : Nat) (w' : Nat → Nat) (h' : Nat → Nat → Int) (hm : m ≤ 1048576) (hw : ∀ i, i < m → w i ≤ 1048576) : PRet Tryd.prog G0 30 [RL nn m w h, RL nn' m' w' h'] (AB (sameR m w h m' w' h')) := by
  refine PRet.by chk30 (ev_sRw nn nn' m w h m' w' h') ?_
  simp only [VC.holds_split, VC.holds_need, VC.holds_doneP, VC.holds_done, VC.holds_either, VC.holds_call, VC.holds_callE, VC.holds_lend, VC.holds_stop, VC.holds_fail, decide_eq_true_eq, decide_eq_false_iff_not]
  refine ⟨fun h => ?_, fun h0 => ?_⟩
  · have : ¬ m = m' := by simp at h; omega
    simp [sameR, this]
  have hnm : m = m' := by simp at h0; omega
  subst hnm
  refine loop_by (st_sRw nn nn' m w h w' h') (fun k => k ≤ m ∧ ∀ j, j < k → (rowL (w j) (h j) 0 == rowL (w' j) (h' j) 0) = true) (fun k => m - k) 0 [] [] [] (by simp) ?_ (evr_sRw nn nn' m w h w' h') fun k hk => ?_
  · simp [st_sRw, hbs, St.lowers, St.lower, stLe, leEnv, leObs, obLe, injB, pinC, AV.leC, AV.leCs, PV.leC, PV.Le_v, St.get, St.obj, look, rho, isNew, keptC, renH, Mode.ok, Mode.isZ, PV.isVal, PV.isNilSl, List.all_nil, List.all_cons, List.any_nil, List.any_cons, List.map_nil, List.map_cons, PV.Le_self]
  · obtain ⟨hk, hall⟩ := hk
    simp only [VC.holds_split, VC.holds_need, VC.holds_doneP, VC.holds_done, VC.holds_either, VC.holds_call, VC.holds_callE, VC.holds_lend, VC.holds_stop, VC.holds_fail, decide_eq_true_eq, decide_eq_false_iff_not, Int.toNat_natCast]
    refine ⟨fun h1 => ⟨by omega, by omega, c_sIn _ _ _ _ _ _ (hw k (by omega)), fun h2 => ?_, fun h2 => Again.mk (k + 1) [] [] [] ⟨by omega, fun j hj => ?_⟩ (by omega) ?_⟩, fun h1 => ?_⟩
    · have h3 : (rowL (w k) (h k) 0 == rowL (w' k) (h' k) 0) = false := by simpa using h2
      simp [sameR, allB_no (p := fun i => rowL (w i) (h i) 0 == rowL (w' i) (h' i) 0) (show k < m by omega) h3]
    · by_cases h3 : j = k
      · subst h3; simpa using h2
      · exact hall j (by omega)
    · have e1 : IntKind.i64.wrap ((k : Int) + 1) = ((k + 1 : Nat) : Int) := wrap_in (by omega) (by omega)
      simp only [e1, st_sRw]
      simp [hbs, St.lowers, St.lower, stLe, leEnv, leObs, obLe, injB, pinC, AV.leC, AV.leCs, PV.leC, PV.Le_v, St.get, St.obj, look, rho, isNew, keptC, renH, Mode.ok, Mode.isZ, PV.isVal, PV.isNilSl, List.all_nil, List.all_cons, List.any_nil, List.any_cons, List.map_nil, List.map_cons, PV.Le_self]
    · have : k = m := by omega
      subst this
      have : allB (fun i => rowL (w i) (h i) 0 == rowL (w' i) (h' i) 0) k = true := allB_iff.2 hall
      simp [sameR, this]
theorem ev_sTb : ∀ (n : Nat) (f : Nat → ByteArray) (m : Nat) (w : Nat → Nat) (h : Nat → Nat → Int) (n' : Nat) (f' : Nat → ByteArray) (m' : Nat) (w' : Nat → Nat) (h' : Nat → Nat → Int), ev G0 res15 [] (3000 : Nat) (Or.call [] (AB (sameT n f n' f')) [] ((Or.call [] (AB (sameR m w h m' w' h')) [] Or.nil.lit).lit.lit.lit.lit.split Or.nil.lit.lit.lit.lit.lit)) [Item.ir ir15] (start [TA false false n f m w h, TA false false n' f' m' w' h'] []) = VC.call (29 : Nat) [AV.p false (PV.sl false (1 : Nat) n fun (i x : Nat) => PT (f i)), AV.p false (PV.sl false (1 : Nat) n' fun (i x : Nat) => PT (f' i))] [] (AB (sameT n f n' f')) [] (VC.split (sameT n f n' f') (VC.call (30 : Nat) [AV.p false (PV.sl false (1 : Nat) m (RR w h)), AV.p false (PV.sl false (1 : Nat) m' (RR w' h'))] [] (AB (sameR m w h m' w' h')) [] (VC.doneP (AV.p true (PV.v (Value.bool (sameR m w h m' w' h')))))) (VC.doneP (AV.p true (PV.v (Value.bool false))))) := by intros; kernel_rfl
theorem c_sTb (n : Nat) (f : Nat → ByteArray) (m : Nat) (w : Nat → Nat) (h : Nat → Nat → Int) (n' : Nat) (f' : Nat → ByteArray) (m' : Nat) (w' : Nat → Nat) (h' : Nat → Nat → Int) (hn : n ≤ 1048576) (hm : m ≤ 1048576) (hw : ∀ i, i < m → w i ≤ 1048576) :
    PRet Tryd.prog G0 15 [TA false false n f m w h, TA false false n' f' m' w' h'] (AB (sameT n f n' f' && sameR m w h m' w' h')) := by
  refine PRet.by chk15 (ev_sTb n f m w h n' f' m' w' h') ?_
  simp only [VC.holds_split, VC.holds_need, VC.holds_doneP, VC.holds_done, VC.holds_either, VC.holds_call, VC.holds_callE, VC.holds_lend, VC.holds_stop, VC.holds_fail, decide_eq_true_eq, decide_eq_false_iff_not]
  refine ⟨c_sTx _ _ _ _ _ _ hn, fun e => ⟨c_sRw _ _ _ _ _ _ _ _ hm hw, ?_⟩, fun e => ?_⟩
  · simp [e]
  · simp [e]
end Go.Gw
