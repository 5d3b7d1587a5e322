/- Rows of numbers compared; with no condition. -/
import Derived.Test.YtigaelckdbeecaaDoorInts
import Derived.KernelRfl
namespace Go.Gw
open Go Go.Proofs
set_option linter.unusedSimpArgs false
set_option linter.unusedVariables false
set_option maxRecDepth 100000
def ir61_L1 : Ir :=
  (.seq
  (.seq
  (.reg [11, 12, 13] [o 11 (.mov (tt 5)),
    o 12 (.mov (tt 0)),
    o 13 (.len (tt 12)),
    o 14 (.bin .lss (tt 11) (tt 13))])
  (.cond (tt 14)
   .skip
   (.exit 0)))
  (.seq
  (.block 1
   (.seq
   (.dreg [17, 18, 19, 20, 21, 22, 23, 24] [0, 0, 3, 7, 0, 0, 48, 112, 255] [(3, 1020), (7, 1024)] [o 17 (.mov (tt 0)),
     o 18 (.mov (tt 5)),
     o 19 (.idx 1 (tt 17) (tt 18)),
     o 20 (.load false 1 (tt 19)),
     o 21 (.mov (tt 1)),
     o 22 (.mov (tt 5)),
     o 23 (.idx 1 (tt 21) (tt 22)),
     o 24 (.load false 1 (tt 23)),
     o 25 (.bin .neq (tt 20) (tt 24))])
   (.cond (tt 25)
    (.seq
    (.reg [] [o 4 (.mov (cb false))])
    .ret)
    .skip)))
  (.reg [15, 16] [o 15 (.mov (tt 5)),
    o 16 (.bin .add (tt 15) (ci 1)),
    o 5 (.mov (tt 16))])))
def ir61_T2 : Ir :=
  (.seq
  (.reg [] [o 4 (.mov (cb true))])
  .ret)
def ir61 : Ir :=
  (.seq
  (.reg [] [o 4 (.mov (cb false))])
  (.seq
  (.seq
  (.reg [6, 7, 8, 9] [o 6 (.mov (tt 0)),
    o 7 (.len (tt 6)),
    o 8 (.mov (tt 1)),
    o 9 (.len (tt 8)),
    o 10 (.bin .neq (tt 7) (tt 9))])
  (.cond (tt 10)
   (.seq
   (.reg [] [o 4 (.mov (cb false))])
   .ret)
   .skip))
  (.seq
  (.seq
  (.reg [] [o 5 (.mov (ci 0))])
  (.block 0
   (.loop ir61_L1)))
  ir61_T2)))
def keep61 : List Nat := [0, 1, 4, 5, 10, 14, 25]
def res61 : List RI := [.tmp 4]
theorem chk61 : chk Tryd.prog 61 2 keep61 = some (ir61, res61) := by kernel_rfl

def sameI (n : Nat) (f : Nat → Int) (m : Nat) (g : Nat → Int) : Bool := decide (n = m) && allB (fun i => f i == g i) n
theorem ev_same : ∀ (nn nn' : Bool) (n : Nat) (f : Nat → Int) (m : Nat) (g : Nat → Int), ev G0 res61 [] (3000 : Nat) (Or.nil.split Or.nil) [Item.ir ir61] (start [IL nn n f, IL nn' m g] []) = VC.split ((↑n : Int) != (↑m : Int)) (VC.doneP (AV.p true (PV.v (Value.bool false)))) (VC.loop ir61_L1 [Item.bend (0 : Nat), Item.ir ir61_T2] (St.mk [((0 : Nat), AV.p false (PV.sl nn (1 : Nat) n fun (i x : Nat) => PI (f i))), ((1 : Nat), AV.p false (PV.sl nn' (1 : Nat) m fun (i x : Nat) => PI (g i))), ((4 : Nat), AV.p true (PV.v (Value.bool false))), ((10 : Nat), AV.p true (PV.v (Value.bool ((↑n : Int) != (↑m : Int))))), ((5 : Nat), AV.p true (PV.v (Value.int IntKind.i64 (0 : Int))))] [])) := by intros; kernel_rfl
def st_same (nn nn' : Bool) (n : Nat) (f : Nat → Int) (m : Nat) (g : Nat → Int) (k : Nat) : St := ⟨[(0, IL nn n f), (1, IL nn' m g), (5, AI k)], []⟩
theorem evr_same : ∀ (nn nn' : Bool) (n : Nat) (f : Nat → Int) (m : Nat) (g : Nat → Int) (I : Nat → St → Prop) (k : Nat), ev G0 res61 [] (3000 : Nat) ((Or.nil.split Or.nil).split Or.nil) [Item.ir ir61_L1, Item.lend (I k), Item.bend (0 : Nat), Item.ir ir61_T2] (st_same nn nn' n f m g k) = VC.split (decide ((↑k : Int) < (↑n : Int))) (VC.need ((0 : Int) ≤ (↑k : Int) ∧ (↑k : Int).toNat < n) (VC.need ((0 : Int) ≤ (↑k : Int) ∧ (↑k : Int).toNat < m) (VC.split (f (↑k : Int).toNat != g (↑k : Int).toNat) (VC.doneP (AV.p true (PV.v (Value.bool false)))) (VC.lend (I k) (St.mk [((0 : Nat), AV.p false (PV.sl nn (1 : Nat) n fun (i x : Nat) => PI (f i))), ((1 : Nat), AV.p false (PV.sl nn' (1 : Nat) m fun (i x : Nat) => PI (g i))), ((5 : Nat), AV.p true (PV.v (Value.int IntKind.i64 (IntKind.i64.wrap ((↑k : Int) + (1 : Int)))))), ((14 : Nat), AV.p true (PV.v (Value.bool (decide ((↑k : Int) < (↑n : Int)))))), ((25 : Nat), AV.p true (PV.v (Value.bool (f (↑k : Int).toNat != g (↑k : Int).toNat))))] []))))) (VC.doneP (AV.p true (PV.v (Value.bool true)))) := by intros; kernel_rfl
theorem c_same0 (nn nn' : Bool) (n : Nat) (f : Nat → Int) (m : Nat) (g : Nat → Int) (hn : n ≤ 1048576000) : PRet Tryd.prog G0 61 [IL nn n f, IL nn' m g] (AB (sameI n f m g)) := by
  refine PRet.by chk61 (ev_same nn nn' n f m g) ?_
  simp only [VC.holds_split, VC.holds_need, VC.holds_doneP, VC.holds_done, VC.holds_either, VC.holds_call, VC.holds_callE, VC.holds_lend, VC.holds_stop, VC.holds_fail, decide_eq_true_eq, decide_eq_false_iff_not]
  refine ⟨fun h => ?_, fun h => ?_⟩
  · have : ¬ n = m := by simp at h; omega
    simp [sameI, this]
  · have hnm : n = m := by simp at h; omega
    subst hnm
    refine loop_by (st_same nn nn' n f n g) (fun k => k ≤ n ∧ ∀ j, j < k → (f j == g j) = true) (fun k => n - k) 0 [] [] [] (by simp) ?_ (evr_same nn nn' n f n g) fun k hk => ?_
    · simp [st_same, hbs, St.lowers, St.lower, stLe, leEnv, leObs, obLe, injB, pinC, AV.leC, AV.leCs, PV.leC, PV.Le_v, St.get, St.obj, look, rho, isNew, keptC, renH, Mode.ok, Mode.isZ, PV.isVal, PV.isNilSl, List.all_nil, List.all_cons, List.any_nil, List.any_cons, List.map_nil, List.map_cons]
    · obtain ⟨hk, hall⟩ := hk
      simp only [VC.holds_split, VC.holds_need, VC.holds_doneP, VC.holds_done, VC.holds_either, VC.holds_call, VC.holds_callE, VC.holds_lend, VC.holds_stop, VC.holds_fail, decide_eq_true_eq, decide_eq_false_iff_not, Int.toNat_natCast]
      have e1 : IntKind.i64.wrap ((k : Int) + 1) = ((k + 1 : Nat) : Int) ∨ ¬ k ≤ 1048576000 := by
        by_cases hb : k ≤ 1048576000
        · exact .inl (wrap_in (by omega) (by omega))
        · exact .inr hb
      refine ⟨fun h1 => ⟨by omega, by omega, fun h2 => ?_, fun h2 => Again.mk (k + 1) [] [] [] ⟨by omega, fun j hj => ?_⟩ (by omega) ?_⟩, fun h1 => ?_⟩
      · have h4 : (f k == g k) = false := by simpa [bne] using h2
        have : allB (fun i => f i == g i) n = false := by
          cases h5 : allB (fun i => f i == g i) n with
          | false => rfl
          | true => have := allB_iff.1 h5 k (by omega); rw [h4] at this; cases this
        simp [sameI, this]
      · by_cases h4 : j = k
        · subst h4; simpa [bne] using h2
        · exact hall j (by omega)
      · have e1 : IntKind.i64.wrap ((k : Int) + 1) = ((k + 1 : Nat) : Int) := wrap_in (by omega) (by omega)
        simp only [e1, st_same]
        simp [hbs, St.lowers, St.lower, stLe, leEnv, leObs, obLe, injB, pinC, AV.leC, AV.leCs, PV.leC, PV.Le_v, St.get, St.obj, look, rho, isNew, keptC, renH, Mode.ok, Mode.isZ, PV.isVal, PV.isNilSl, List.all_nil, List.all_cons, List.any_nil, List.any_cons, List.map_nil, List.map_cons]
      · have hks : k = n := by omega
        subst hks
        have : allB (fun i => f i == g i) k = true := allB_iff.2 hall
        simp [sameI, this]
end Go.Gw
