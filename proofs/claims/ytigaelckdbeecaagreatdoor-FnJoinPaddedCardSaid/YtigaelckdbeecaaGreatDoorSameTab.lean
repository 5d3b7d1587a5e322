/- Tables compared by the laws; with no condition. -/
import Derived.Test.YtigaelckdbeecaaGreatDoorSortRows
import Derived.Test.YtigaelckdbeecaaGreatDoorSame
import Derived.KernelRfl
namespace Go.Gw
open Go Go.Proofs
set_option linter.unusedSimpArgs false
set_option linter.unusedVariables false
set_option maxRecDepth 100000
def ir34_L1 : Ir := (.seq (.seq (.reg [11, 12, 13] [om 11 5, om 12 0, o 13 (.len (tt 12)), ob .lss 14 11 13]) (.cond (tt 14) .skip (.exit 0))) (.seq (.block 1 (.seq (.dreg [17, 18, 19, 20, 21, 22, 23, 24] [0, 0, 3, 7, 0, 0, 48, 112, 255] [(3, 1020), (7, 1024)] [om 17 0, om 18 5, ox 19 17 18, ol 20 19, om 21 1, om 22 5, ox 23 21 22, ol 24 23, ob .neq 25 20 24]) (.cond (tt 25) (.seq (.reg [] [o 4 (.mov (cb false))]) .ret) .skip))) (.reg [15, 16] [om 15 5, o 16 (.bin .add (tt 15) (ci 1)), om 5 16])))
def ir34_T2 : Ir := (.seq (.reg [] [o 4 (.mov (cb true))]) .ret)
def ir34 : Ir := (.seq (.reg [] [o 4 (.mov (cb false))]) (.seq (.seq (.reg [6, 7, 8, 9] [om 6 0, o 7 (.len (tt 6)), om 8 1, o 9 (.len (tt 8)), ob .neq 10 7 9]) (.cond (tt 10) (.seq (.reg [] [o 4 (.mov (cb false))]) .ret) .skip)) (.seq (.seq (.reg [] [o 5 (.mov (ci 0))]) (.block 0 (.loop ir34_L1))) ir34_T2)))
def keep34 : List Nat := [0, 1, 4, 5, 10, 14, 25]
def res34 : List RI := [.tmp 4]
theorem chk34 : chk Tryz.prog 34 2 keep34 = some (ir34, res34) := by kernel_rfl
def ir35_L1 : Ir := (.seq (.seq (.reg [11, 12, 13] [om 11 5, om 12 0, o 13 (.len (tt 12)), ob .lss 14 11 13]) (.cond (tt 14) .skip (.exit 0))) (.seq (.block 1 (.seq (.dreg [17, 18, 19, 20, 21, 22, 23, 24, 25] [0, 0, 3, 7, 0, 0, 48, 112, 255, 511] [(3, 1020), (7, 1024), (8, 1025), (8, 2025), (8, 3025), (8, 4025), (8, 5025), (8, 6025), (8, 7025), (8, 8025)] [om 17 0, om 18 5, ox 19 17 18, ol 20 19, om 21 1, om 22 5, ox 23 21 22, ol 24 23, o 25 (.call 69 [(tt 20), (tt 24)]), o 26 (.un .not (tt 25))]) (.cond (tt 26) (.seq (.reg [] [o 4 (.mov (cb false))]) .ret) .skip))) (.reg [15, 16] [om 15 5, o 16 (.bin .add (tt 15) (ci 1)), om 5 16])))
def ir35_T2 : Ir := (.seq (.reg [] [o 4 (.mov (cb true))]) .ret)
def ir35 : Ir := (.seq (.reg [] [o 4 (.mov (cb false))]) (.seq (.seq (.reg [6, 7, 8, 9] [om 6 0, o 7 (.len (tt 6)), om 8 1, o 9 (.len (tt 8)), ob .neq 10 7 9]) (.cond (tt 10) (.seq (.reg [] [o 4 (.mov (cb false))]) .ret) .skip)) (.seq (.seq (.reg [] [o 5 (.mov (ci 0))]) (.block 0 (.loop ir35_L1))) ir35_T2)))
def keep35 : List Nat := [0, 1, 4, 5, 10, 14, 26]
def res35 : List RI := [.tmp 4]
theorem chk35 : chk Tryz.prog 35 2 keep35 = some (ir35, res35) := by kernel_rfl
theorem c_sIn (nn nn' : Bool) (n : Nat) (f : Nat → Int) (m : Nat) (g : Nat → Int) (hn : n ≤ 1048576) : PRet Tryz.prog G0 69 [IL nn n f, IL nn' m g] (AB (rowL n f 0 == rowL m g 0)) := by
  rw [← sameV_eq]
  exact c_same0 nn nn' n f m g (by omega)
theorem ev_sTx : ∀ (nn nn' : Bool) (n : Nat) (f : Nat → ByteArray) (m : Nat) (g : Nat → ByteArray), ev G0 res34 [] 3000 (Or.nil.split Or.nil) [.ir ir34] (start [TL nn n f, TL nn' m g] []) = VC.split ((↑n : Int) != (↑m : Int)) (VC.doneP (AB false)) (VC.loop ir34_L1 [.bend 0, .ir ir34_T2] (St.mk [(0, TL nn n f), (1, SL nn' 1 m fun i x => PT (g i)), (4, AB false), (10, AB ((↑n : Int) != (↑m : Int))), (5, AI 0)] [])) := by intros; kernel_rfl
def st_sTx (nn nn' : Bool) (n : Nat) (f : Nat → ByteArray) (m : Nat) (g : Nat → ByteArray) (k : Nat) : St := ⟨[(0, TL nn n f), (1, TL nn' m g), (5, AI k)], []⟩
theorem evr_sTx : ∀ (nn nn' : Bool) (n : Nat) (f : Nat → ByteArray) (m : Nat) (g : Nat → ByteArray) (I : Nat → St → Prop) (k : Nat), ev G0 res34 [] 3000 ((Or.nil.split Or.nil).split Or.nil) [.ir ir34_L1, .lend (I k), .bend 0, .ir ir34_T2] (st_sTx nn nn' n f m g k) = VC.split (decide ((↑k : Int) < ↑n)) (VC.need (0 ≤ (↑k : Int) ∧ k < n) (VC.need (0 ≤ (↑k : Int) ∧ k < m) (VC.split (!(f k).toList == (g k).toList) (VC.doneP (AB false)) (VC.lend (I k) (St.mk [(0, TL nn n f), (1, SL nn' 1 m fun i x => PT (g i)), (5, AI (IntKind.i64.wrap ((↑k : Int) + 1))), (14, AB (decide ((↑k : Int) < ↑n))), (25, AB !(f k).toList == (g k).toList)] []))))) (VC.doneP (AB true)) := by intros; kernel_rfl
theorem c_sTx (nn nn' : Bool) (n : Nat) (f : Nat → ByteArray) (m : Nat) (g : Nat → ByteArray) (hn : n ≤ 1048576) : PRet Tryz.prog G0 34 [TL nn n f, TL nn' m g] (AB (sameT n f m g)) := by
  refine PRet.by chk34 (ev_sTx nn nn' n f m g) ?_
  simp only [vcA]
  refine ⟨fun h => ?_, fun h => ?_⟩
  · have : ¬ n = m := by simp at h; omega
    simp [sameT, this]
  have hnm : n = m := by simp at h; omega
  subst hnm
  refine loop_by (st_sTx nn nn' n f n g) (fun k => k ≤ n ∧ ∀ j, j < k → ((f j).toList == (g j).toList) = true) (fun k => n - k) 0 [] [] [] (by simp) ?_ (evr_sTx nn nn' n f n g) fun k hk => ?_
  · simp [st_sTx, leA, PV.Le_self]
  · obtain ⟨hk, hall⟩ := hk
    simp only [vcA, Int.toNat_natCast]
    refine ⟨fun h1 => ⟨by omega, by omega, fun h2 => ?_, fun h2 => Again.mk (k + 1) [] [] [] ⟨by omega, fun j hj => ?_⟩ (by omega) ?_⟩, fun h1 => ?_⟩
    · have h3 : ((f k).toList == (g k).toList) = false := by simpa using h2
      simp [sameT, allB_no (p := fun i => (f i).toList == (g i).toList) (show k < n by omega) h3]
    · by_cases h3 : j = k
      · subst h3; simpa using h2
      · exact hall j (by omega)
    · have e1 : IntKind.i64.wrap ((k : Int) + 1) = ((k + 1 : Nat) : Int) := wrap_in (by omega) (by omega)
      simp only [e1, st_sTx]
      simp [leA, PV.Le_self]
    · have : k = n := by omega
      subst this
      have : allB (fun i => (f i).toList == (g i).toList) k = true := allB_iff.2 hall
      simp [sameT, this]
theorem ev_sRw : ∀ (nn nn' : Bool) (m : Nat) (w : Nat → Nat) (h : Nat → Nat → Int) (m' : Nat) (w' : Nat → Nat) (h' : Nat → Nat → Int), ev G0 res35 [] 3000 (Or.nil.split Or.nil) [.ir ir35] (start [RL nn m w h, RL nn' m' w' h'] []) = VC.split ((↑m : Int) != (↑m' : Int)) (VC.doneP (AB false)) (VC.loop ir35_L1 [.bend 0, .ir ir35_T2] (St.mk [(0, RL nn m w h), (1, SL nn' 1 m' (RR w' h')), (4, AB false), (10, AB ((↑m : Int) != (↑m' : Int))), (5, AI 0)] [])) := by intros; kernel_rfl
def st_sRw (nn nn' : Bool) (m : Nat) (w : Nat → Nat) (h : Nat → Nat → Int) (w' : Nat → Nat) (h' : Nat → Nat → Int) (k : Nat) : St := ⟨[(0, RL nn m w h), (1, RL nn' m w' h'), (5, AI k)], []⟩
theorem evr_sRw : ∀ (nn nn' : Bool) (m : Nat) (w : Nat → Nat) (h : Nat → Nat → Int) (w' : Nat → Nat) (h' : Nat → Nat → Int) (I : Nat → St → Prop) (k : Nat), ev G0 res35 [] 3000 ((Or.call [] (AB (rowL (w k) (h k) 0 == rowL (w' k) (h' k) 0)) [] (Or.nil.split Or.nil)).split Or.nil) [.ir ir35_L1, .lend (I k), .bend 0, .ir ir35_T2] (st_sRw nn nn' m w h w' h' k) = VC.split (decide ((↑k : Int) < ↑m)) (VC.need (0 ≤ (↑k : Int) ∧ k < m) (VC.need (0 ≤ (↑k : Int) ∧ k < m) (VC.call 69 [SL false 1 (w k) fun j x => PI (h k j), SL false 1 (w' k) fun j x => PI (h' k j)] [] (AB (rowL (w k) (h k) 0 == rowL (w' k) (h' k) 0)) [] (VC.split (!rowL (w k) (h k) 0 == rowL (w' k) (h' k) 0) (VC.doneP (AB false)) (VC.lend (I k) (St.mk [(0, RL nn m w h), (1, SL nn' 1 m (RR w' h')), (5, AI (IntKind.i64.wrap ((↑k : Int) + 1))), (14, AB (decide ((↑k : Int) < ↑m))), (26, AB !rowL (w k) (h k) 0 == rowL (w' k) (h' k) 0)] [])))))) (VC.doneP (AB true)) := by intros; kernel_rfl
theorem c_sRw (nn nn' : Bool) (m : Nat) (w : Nat → Nat) (h : Nat → Nat → Int) (m' : Nat) (w' : Nat → Nat) (h' : Nat → Nat → Int) (hm : m ≤ 1048576) (hw : ∀ i, i < m → w i ≤ 1048576) : PRet Tryz.prog G0 35 [RL nn m w h, RL nn' m' w' h'] (AB (sameR m w h m' w' h')) := by
  refine PRet.by chk35 (ev_sRw nn nn' m w h m' w' h') ?_
  simp only [vcA]
  refine ⟨fun h => ?_, fun h0 => ?_⟩
  · have : ¬ m = m' := by simp at h; omega
    simp [sameR, this]
  have hnm : m = m' := by simp at h0; omega
  subst hnm
  refine loop_by (st_sRw nn nn' m w h w' h') (fun k => k ≤ m ∧ ∀ j, j < k → (rowL (w j) (h j) 0 == rowL (w' j) (h' j) 0) = true) (fun k => m - k) 0 [] [] [] (by simp) ?_ (evr_sRw nn nn' m w h w' h') fun k hk => ?_
  · simp [st_sRw, leA, PV.Le_self]
  · obtain ⟨hk, hall⟩ := hk
    simp only [vcA, Int.toNat_natCast]
    refine ⟨fun h1 => ⟨by omega, by omega, c_sIn _ _ _ _ _ _ (hw k (by omega)), fun h2 => ?_, fun h2 => Again.mk (k + 1) [] [] [] ⟨by omega, fun j hj => ?_⟩ (by omega) ?_⟩, fun h1 => ?_⟩
    · have h3 : (rowL (w k) (h k) 0 == rowL (w' k) (h' k) 0) = false := by simpa using h2
      simp [sameR, allB_no (p := fun i => rowL (w i) (h i) 0 == rowL (w' i) (h' i) 0) (show k < m by omega) h3]
    · by_cases h3 : j = k
      · subst h3; simpa using h2
      · exact hall j (by omega)
    · have e1 : IntKind.i64.wrap ((k : Int) + 1) = ((k + 1 : Nat) : Int) := wrap_in (by omega) (by omega)
      simp only [e1, st_sRw]
      simp [leA, PV.Le_self]
    · have : k = m := by omega
      subst this
      have : allB (fun i => rowL (w i) (h i) 0 == rowL (w' i) (h' i) 0) k = true := allB_iff.2 hall
      simp [sameR, this]
end Go.Gw
