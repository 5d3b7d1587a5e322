/- Rows of numbers compared; with no condition. -/
import Derived.Test.YtigaelckdbeecaaGreatDoorInts
import Derived.KernelRfl
namespace Go.Gw
open Go Go.Proofs
set_option linter.unusedSimpArgs false
set_option linter.unusedVariables false
set_option maxRecDepth 100000
def ir69_L1 : Ir := (.seq (.seq (.reg [11, 12, 13] [om 11 5, om 12 0, o 13 (.len (tt 12)), ob .lss 14 11 13]) (.cond (tt 14) .skip (.exit 0))) (.seq (.block 1 (.seq (.dreg [17, 18, 19, 20, 21, 22, 23, 24] [0, 0, 3, 7, 0, 0, 48, 112, 255] [(3, 1020), (7, 1024)] [om 17 0, om 18 5, ox 19 17 18, ol 20 19, om 21 1, om 22 5, ox 23 21 22, ol 24 23, ob .neq 25 20 24]) (.cond (tt 25) (.seq (.reg [] [o 4 (.mov (cb false))]) .ret) .skip))) (.reg [15, 16] [om 15 5, o 16 (.bin .add (tt 15) (ci 1)), om 5 16])))
def ir69_T2 : Ir := (.seq (.reg [] [o 4 (.mov (cb true))]) .ret)
def ir69 : Ir := (.seq (.reg [] [o 4 (.mov (cb false))]) (.seq (.seq (.reg [6, 7, 8, 9] [om 6 0, o 7 (.len (tt 6)), om 8 1, o 9 (.len (tt 8)), ob .neq 10 7 9]) (.cond (tt 10) (.seq (.reg [] [o 4 (.mov (cb false))]) .ret) .skip)) (.seq (.seq (.reg [] [o 5 (.mov (ci 0))]) (.block 0 (.loop ir69_L1))) ir69_T2)))
def keep69 : List Nat := [0, 1, 4, 5, 10, 14, 25]
def res69 : List RI := [.tmp 4]
theorem chk69 : chk Tryz.prog 69 2 keep69 = some (ir69, res69) := by kernel_rfl
def sameI (n : Nat) (f : Nat → Int) (m : Nat) (g : Nat → Int) : Bool := decide (n = m) && allB (fun i => f i == g i) n
theorem ev_same : ∀ (nn nn' : Bool) (n : Nat) (f : Nat → Int) (m : Nat) (g : Nat → Int), ev G0 res69 [] 3000 (Or.nil.split Or.nil) [.ir ir69] (start [IL nn n f, IL nn' m g] []) = VC.split ((↑n : Int) != (↑m : Int)) (VC.doneP (AB false)) (VC.loop ir69_L1 [.bend 0, .ir ir69_T2] (St.mk [(0, SL nn 1 n fun i x => PI (f i)), (1, SL nn' 1 m fun i x => PI (g i)), (4, AB false), (10, AB ((↑n : Int) != (↑m : Int))), (5, AI 0)] [])) := by intros; kernel_rfl
def st_same (nn nn' : Bool) (n : Nat) (f : Nat → Int) (m : Nat) (g : Nat → Int) (k : Nat) : St := ⟨[(0, IL nn n f), (1, IL nn' m g), (5, AI k)], []⟩
theorem evr_same : ∀ (nn nn' : Bool) (n : Nat) (f : Nat → Int) (m : Nat) (g : Nat → Int) (I : Nat → St → Prop) (k : Nat), ev G0 res69 [] 3000 ((Or.nil.split Or.nil).split Or.nil) [.ir ir69_L1, .lend (I k), .bend 0, .ir ir69_T2] (st_same nn nn' n f m g k) = VC.split (decide ((↑k : Int) < ↑n)) (VC.need (0 ≤ (↑k : Int) ∧ k < n) (VC.need (0 ≤ (↑k : Int) ∧ k < m) (VC.split (f k != g k) (VC.doneP (AB false)) (VC.lend (I k) (St.mk [(0, SL nn 1 n fun i x => PI (f i)), (1, SL nn' 1 m fun i x => PI (g i)), (5, AI (IntKind.i64.wrap ((↑k : Int) + 1))), (14, AB (decide ((↑k : Int) < ↑n))), (25, AB (f k != g k))] []))))) (VC.doneP (AB true)) := by intros; kernel_rfl
theorem c_same0 (nn nn' : Bool) (n : Nat) (f : Nat → Int) (m : Nat) (g : Nat → Int) (hn : n ≤ 1048576000) : PRet Tryz.prog G0 69 [IL nn n f, IL nn' m g] (AB (sameI n f m g)) := by
  refine PRet.by chk69 (ev_same nn nn' n f m g) ?_
  simp only [vcA]
  refine ⟨fun h => ?_, fun h => ?_⟩
  · have : ¬ n = m := by simp at h; omega
    simp [sameI, this]
  · have hnm : n = m := by simp at h; omega
    subst hnm
    refine loop_by (st_same nn nn' n f n g) (fun k => k ≤ n ∧ ∀ j, j < k → (f j == g j) = true) (fun k => n - k) 0 [] [] [] (by simp) ?_ (evr_same nn nn' n f n g) fun k hk => ?_
    · simp [st_same, leA]
    · obtain ⟨hk, hall⟩ := hk
      simp only [vcA, Int.toNat_natCast]
      have e1 : IntKind.i64.wrap ((k : Int) + 1) = ((k + 1 : Nat) : Int) ∨ ¬ k ≤ 1048576000 := by
        by_cases hb : k ≤ 1048576000
        · exact .inl (wrap_in (by omega) (by omega))
        · exact .inr hb
      refine ⟨fun h1 => ⟨by omega, by omega, fun h2 => ?_, fun h2 => Again.mk (k + 1) [] [] [] ⟨by omega, fun j hj => ?_⟩ (by omega) ?_⟩, fun h1 => ?_⟩
      · have h4 : (f k == g k) = false := by simpa [bne] using h2
        have : allB (fun i => f i == g i) n = false := by
          cases h5 : allB (fun i => f i == g i) n with
          | false => rfl
          | true => have := allB_iff.1 h5 k (by omega); rw [h4] at this; cases this
        simp [sameI, this]
      · by_cases h4 : j = k
        · subst h4; simpa [bne] using h2
        · exact hall j (by omega)
      · have e1 : IntKind.i64.wrap ((k : Int) + 1) = ((k + 1 : Nat) : Int) := wrap_in (by omega) (by omega)
        simp only [e1, st_same]
        simp [leA]
      · have hks : k = n := by omega
        subst hks
        have : allB (fun i => f i == g i) k = true := allB_iff.2 hall
        simp [sameI, this]
end Go.Gw
