/- Padded tables: marks, and which tables are valid; with no condition. -/
import Derived.Test.YtigaelckdbeecaaGreatDoorTable
import Derived.Test.YtigaelckdbeecaaGreatDoorSame
import Derived.KernelRfl
namespace Go.Gw
open Go Go.Proofs
set_option linter.unusedSimpArgs false
set_option linter.unusedVariables false
set_option maxRecDepth 100000
def ir36_L1 : Ir := (.seq (.seq (.reg [11, 12, 13] [om 11 5, om 12 0, o 13 (.len (tt 12)), ob .lss 14 11 13]) (.cond (tt 14) .skip (.exit 0))) (.seq (.block 1 (.seq (.dreg [17, 18, 19, 20, 21, 22, 23, 24] [0, 0, 3, 7, 0, 0, 48, 112, 255] [(3, 1020), (7, 1024)] [om 17 0, om 18 5, ox 19 17 18, ol 20 19, om 21 1, om 22 5, ox 23 21 22, ol 24 23, o 25 (.binB .neq (tt 20) (tt 24))]) (.cond (tt 25) (.seq (.reg [] [o 4 (.mov (cb false))]) .ret) .skip))) (.reg [15, 16] [om 15 5, o 16 (.bin .add (tt 15) (ci 1)), om 5 16])))
def ir36_T2 : Ir := (.seq (.reg [] [o 4 (.mov (cb true))]) .ret)
def ir36 : Ir := (.seq (.reg [] [o 4 (.mov (cb false))]) (.seq (.seq (.reg [6, 7, 8, 9] [om 6 0, o 7 (.len (tt 6)), om 8 1, o 9 (.len (tt 8)), ob .neq 10 7 9]) (.cond (tt 10) (.seq (.reg [] [o 4 (.mov (cb false))]) .ret) .skip)) (.seq (.seq (.reg [] [o 5 (.mov (ci 0))]) (.block 0 (.loop ir36_L1))) ir36_T2)))
def keep36 : List Nat := [0, 1, 4, 5, 10, 14, 25]
def res36 : List RI := [.tmp 4]
theorem chk36 : chk Tryz.prog 36 2 keep36 = some (ir36, res36) := by kernel_rfl
def ir39_L1 : Ir := (.seq (.reg [] [ob .lss 10 9 8]) (.seq (.cond (tt 10) .skip (.exit 0)) (.seq (.block 1 (.seq (.reg [11, 12] [ox 11 7 9, ol 12 11, om 5 12]) (.seq (.reg [] [om 13 5]) (.cond (tt 13) (.reg [14, 15] [om 14 3, o 15 (.bin .add (tt 14) (ci 1)), om 3 15]) .skip)))) (.reg [16] [o 16 (.bin .add (tt 9) (ci 1)), om 9 16]))))
def ir39_T2 : Ir := (.seq (.reg [17] [om 17 3, om 2 17]) .ret)
def ir39 : Ir := (.seq (.reg [] [o 1 (.box 3 (tt 0)), o 2 (.mov (ci 0))]) (.seq (.reg [] [o 3 (.mov (ci 0))]) (.seq (.seq (.reg [6] [oa 6 2 1, ol 7 6, o 8 (.len (tt 7)), o 9 (.mov (ci 0))]) (.block 0 (.loop ir39_L1))) ir39_T2)))
def keep39 : List Nat := [0, 1, 2, 3, 5, 7, 8, 9, 10, 13]
def res39 : List RI := [.tmp 2]
theorem chk39 : chk Tryz.prog 39 1 keep39 = some (ir39, res39) := by kernel_rfl
def ir46 : Ir := (.seq (.reg [] [o 2 (.mov (cb false))]) (.seq (.reg [3, 4] [om 3 0, o 4 (.bin .neq (tt 3) (ci 0)), om 2 4]) .ret))
def keep46 : List Nat := [0, 2]
def res46 : List RI := [.tmp 2]
theorem chk46 : chk Tryz.prog 46 1 keep46 = some (ir46, res46) := by kernel_rfl
def ir13_L1 : Ir := (.seq (.reg [] [ob .lss 36 35 34]) (.seq (.cond (tt 36) .skip (.exit 0)) (.seq (.block 1 (.seq (.reg [37, 38, 39] [om 37 35, ox 38 33 35, ol 39 38, om 3 37, om 4 39]) (.seq (.reg [40, 41, 42, 43, 44, 45, 46, 47, 48] [oa 40 2 1, ol 41 40, om 42 3, ox 43 41 42, ol 44 43, o 45 (.un .not (tt 44)), om 46 45, og 47 46 true (.mov (tt 4)), og 48 46 true (.call 45 [(tt 47), (.func 46)]), o 49 (.pick (tt 46) (tt 48) (cb false))]) (.cond (tt 49) (.seq (.reg [] [o 2 (.mov (cb false))]) .ret) .skip)))) (.reg [50] [o 50 (.bin .add (tt 35) (ci 1)), om 35 50]))))
def ir13_T2 : Ir := (.seq (.reg [] [o 2 (.mov (cb true))]) .ret)
def ir13 : Ir := (.seq (.reg [] [o 1 (.box 3 (tt 0)), o 2 (.mov (cb false))]) (.seq (.seq (.reg [5, 6, 7, 8, 9, 10, 11, 12, 13, 14, 15, 16, 17, 18, 19, 20, 21, 22, 23, 24, 25, 26, 27, 28, 29, 30] [oa 5 0 1, ol 6 5, o 7 (.call 43 [(tt 6)]), o 8 (.un .not (tt 7)), om 9 8, og 10 9 false (.fadr 1 (tt 1)), og 11 9 false (.load false 1 (tt 10)), og 12 9 false (.len (tt 11)), og 13 9 false (.bin .gtr (tt 12) (ci 256)), o 14 (.pick (tt 9) (cb true) (tt 13)), om 15 14, og 16 15 false (.fadr 2 (tt 1)), og 17 15 false (.load false 1 (tt 16)), og 18 15 false (.len (tt 17)), og 19 15 false (.fadr 1 (tt 1)), og 20 15 false (.load false 1 (tt 19)), og 21 15 false (.len (tt 20)), og 22 15 false (.bin .neq (tt 18) (tt 21)), o 23 (.pick (tt 15) (cb true) (tt 22)), om 24 23, og 25 24 false (.fadr 0 (tt 1)), og 26 24 false (.load false 1 (tt 25)), og 27 24 false (.fadr 1 (tt 1)), og 28 24 false (.load false 1 (tt 27)), og 29 24 false (.call 44 [(tt 26), (tt 28)]), og 30 24 false (.un .not (tt 29)), o 31 (.pick (tt 24) (cb true) (tt 30))]) (.cond (tt 31) (.seq (.reg [] [o 2 (.mov (cb false))]) .ret) .skip)) (.seq (.seq (.reg [32] [oa 32 1 1, ol 33 32, o 34 (.len (tt 33)), o 35 (.mov (ci 0))]) (.block 0 (.loop ir13_L1))) ir13_T2)))
def keep13 : List Nat := [0, 1, 2, 3, 4, 31, 33, 34, 35, 36, 49]
def res13 : List RI := [.tmp 2]
theorem chk13 : chk Tryz.prog 13 1 keep13 = some (ir13, res13) := by kernel_rfl
def ir27_L1 : Ir := (.seq (.seq (.reg [22, 23, 24, 25, 26, 27, 28] [om 22 4, oa 23 1 1, ol 24 23, om 25 3, ox 26 24 25, ol 27 26, o 28 (.len (tt 27)), ob .lss 29 22 28]) (.cond (tt 29) .skip (.exit 2))) (.seq (.block 3 (.seq (.reg [32, 33, 34, 35, 36, 37, 38, 39, 40, 41, 42, 43, 44, 45, 46, 47, 48, 49, 50, 51, 52, 53, 54, 55, 56, 57, 58, 59, 60, 61, 62, 63, 64, 65, 66] [oa 32 1 1, ol 33 32, om 34 3, ox 35 33 34, ol 36 35, om 37 4, ox 38 36 37, ol 39 38, o 40 (.call 61 [(tt 39), (ci (-100000)), (ci 100000)]), o 41 (.un .not (tt 40)), om 42 41, og 43 42 false (.mov (tt 3)), og 44 42 false (.fadr 2 (tt 1)), og 45 42 false (.load false 1 (tt 44)), og 46 42 false (.len (tt 45)), og 47 42 false (.bin .lss (tt 43) (tt 46)), og 48 42 false (.mov (tt 47)), og 49 48 true (.fadr 2 (tt 1)), og 50 48 true (.load false 1 (tt 49)), og 51 48 true (.mov (tt 3)), og 52 48 true (.idx 1 (tt 50) (tt 51)), og 53 48 true (.load false 1 (tt 52)), og 54 48 true (.un .not (tt 53)), og 55 42 false (.pick (tt 48) (tt 54) (cb false)), og 56 42 false (.mov (tt 55)), og 57 56 true (.fadr 1 (tt 1)), og 58 56 true (.load false 1 (tt 57)), og 59 56 true (.mov (tt 3)), og 60 56 true (.idx 1 (tt 58) (tt 59)), og 61 56 true (.load false 1 (tt 60)), og 62 56 true (.mov (tt 4)), og 63 56 true (.idx 1 (tt 61) (tt 62)), og 64 56 true (.load false 1 (tt 63)), og 65 56 true (.bin .neq (tt 64) (ci 0)), og 66 42 false (.pick (tt 56) (tt 65) (cb false)), o 67 (.pick (tt 42) (cb true) (tt 66))]) (.cond (tt 67) (.seq (.reg [] [o 2 (.mov (cb false))]) .ret) .skip))) (.reg [30, 31] [om 30 4, o 31 (.bin .add (tt 30) (ci 1)), om 4 31])))
def ir27_T2 : Ir := (.reg [10, 11] [om 10 3, o 11 (.bin .add (tt 10) (ci 1)), om 3 11])
def ir27_L3 : Ir := (.seq (.seq (.reg [5, 6, 7, 8] [om 5 3, oa 6 1 1, ol 7 6, o 8 (.len (tt 7)), ob .lss 9 5 8]) (.cond (tt 9) .skip (.exit 0))) (.seq (.block 1 (.seq (.seq (.dreg [12, 13, 14, 15, 16, 17, 18, 19, 20] [0, 1, 0, 7, 15, 31, 0, 64, 192, 511] [(1, 1013), (4, 1016), (7, 1019)] [oa 12 1 1, ol 13 12, om 14 3, ox 15 13 14, ol 16 15, o 17 (.len (tt 16)), oa 18 0 1, ol 19 18, o 20 (.len (tt 19)), ob .neq 21 17 20]) (.cond (tt 21) (.seq (.reg [] [o 2 (.mov (cb false))]) .ret) .skip)) (.seq (.reg [] [o 4 (.mov (ci 0))]) (.block 2 (.loop ir27_L1))))) ir27_T2))
def ir27_T4 : Ir := (.seq (.reg [68, 69, 70, 71, 72, 73, 74, 75, 76, 77, 78, 79, 80, 81, 82, 83, 84, 85] [oa 68 0 1, ol 69 68, o 70 (.call 29 [(tt 69)]), om 71 70, og 72 71 true (.fadr 1 (tt 1)), og 73 71 true (.load false 1 (tt 72)), og 74 71 true (.len (tt 73)), og 75 71 true (.bin .leq (tt 74) (ci 256)), o 76 (.pick (tt 71) (tt 75) (cb false)), om 77 76, og 78 77 true (.fadr 2 (tt 1)), og 79 77 true (.load false 1 (tt 78)), og 80 77 true (.len (tt 79)), og 81 77 true (.fadr 1 (tt 1)), og 82 77 true (.load false 1 (tt 81)), og 83 77 true (.len (tt 82)), og 84 77 true (.bin .eql (tt 80) (tt 83)), o 85 (.pick (tt 77) (tt 84) (cb false)), om 2 85]) .ret)
def ir27 : Ir := (.seq (.reg [] [o 1 (.box 3 (tt 0)), o 2 (.mov (cb false))]) (.seq (.seq (.reg [] [o 3 (.mov (ci 0))]) (.block 0 (.loop ir27_L3))) ir27_T4))
def keep27 : List Nat := [0, 1, 2, 3, 4, 9, 21, 29, 67]
def res27 : List RI := [.tmp 2]
theorem chk27 : chk Tryz.prog 27 1 keep27 = some (ir27, res27) := by kernel_rfl
abbrev MK (r : Nat → Bool) : Nat → Nat → PV := fun i _ => .v (.bool (r i))
abbrev ML (nn : Bool) (k : Nat) (r : Nat → Bool) : AV := .p false (.sl nn 1 k (MK r))
abbrev PD (nn nn' nn'' : Bool) (n : Nat) (f : Nat → ByteArray) (m : Nat) (w : Nat → Nat) (h : Nat → Nat → Int) (k : Nat) (r : Nat → Bool) : AV := .ag [TL nn n f, RL nn' m w h, ML nn'' k r]
def sameM (k : Nat) (r : Nat → Bool) (k' : Nat) (r' : Nat → Bool) : Bool := decide (k = k') && allB (fun i => r i == r' i) k
theorem ev_sM : ∀ (nn nn' : Bool) (k : Nat) (r : Nat → Bool) (k' : Nat) (r' : Nat → Bool), ev G0 res36 [] 3000 (Or.nil.split Or.nil) [.ir ir36] (start [ML nn k r, ML nn' k' r'] []) = VC.split ((↑k : Int) != (↑k' : Int)) (VC.doneP (AB false)) (VC.loop ir36_L1 [.bend 0, .ir ir36_T2] (St.mk [(0, SL nn 1 k (MK r)), (1, SL nn' 1 k' (MK r')), (4, AB false), (10, AB ((↑k : Int) != (↑k' : Int))), (5, AI 0)] [])) := by intros; kernel_rfl
def st_sM (nn nn' : Bool) (n : Nat) (f g : Nat → Bool) (k : Nat) : St := ⟨[(0, ML nn n f), (1, ML nn' n g), (5, AI k)], []⟩
theorem evr_sM : ∀ (nn nn' : Bool) (n : Nat) (f g : Nat → Bool) (I : Nat → St → Prop) (k : Nat), ev G0 res36 [] 3000 ((Or.nil.split Or.nil).split Or.nil) [.ir ir36_L1, .lend (I k), .bend 0, .ir ir36_T2] (st_sM nn nn' n f g k) = VC.split (decide ((↑k : Int) < ↑n)) (VC.need (0 ≤ (↑k : Int) ∧ k < n) (VC.need (0 ≤ (↑k : Int) ∧ k < n) (VC.split (!f k == g k) (VC.doneP (AB false)) (VC.lend (I k) (St.mk [(0, SL nn 1 n (MK f)), (1, SL nn' 1 n (MK g)), (5, AI (IntKind.i64.wrap ((↑k : Int) + 1))), (14, AB (decide ((↑k : Int) < ↑n))), (25, AB !f k == g k)] []))))) (VC.doneP (AB true)) := by intros; kernel_rfl
theorem ev_re : ∀ (n : Nat) (f : Nat → ByteArray) (m : Nat) (w : Nat → Nat) (h : Nat → Nat → Int) (k : Nat) (r : Nat → Bool), ev G0 res39 [] 3000 Or.nil [.ir ir39] (start [PD false false false n f m w h k r] []) = VC.loop ir39_L1 [.bend 0, .ir ir39_T2] (St.mk [(0, AV.ag [TL false n f, RL false m w h, SL false 1 k (MK r)]), (1, .adr 1 0), (2, AI 0), (3, AI 0), (7, SL false 1 k (MK r)), (8, AI ↑k), (9, AI 0)] [(1, .box [TL false n f, RL false m w h, SL false 1 k (MK r)])]) := by intros; kernel_rfl
def cntB (r : Nat → Bool) : Nat → Nat
  | 0 => 0
  | k + 1 => if r k then cntB r k + 1 else cntB r k
def st_re (k : Nat) (r : Nat → Bool) (i : Nat) : St := ⟨[(3, AI (cntB r i)), (7, ML false k r), (8, AI k), (9, AI i)], []⟩
theorem evr_re : ∀ (k : Nat) (r : Nat → Bool) (I : Nat → St → Prop) (i : Nat), ev G0 res39 [] 3000 ((Or.nil.split Or.nil).split Or.nil) [.ir ir39_L1, .lend (I i), .bend 0, .ir ir39_T2] (st_re k r i) = VC.split (decide ((↑i : Int) < ↑k)) (VC.need (0 ≤ (↑i : Int) ∧ i < k) (VC.split (r i) (VC.lend (I i) (St.mk [(3, AI (IntKind.i64.wrap ((↑(cntB r i) : Int) + 1))), (7, SL false 1 k (MK r)), (8, AI ↑k), (9, AI (IntKind.i64.wrap ((↑i : Int) + 1))), (10, AB (decide ((↑i : Int) < ↑k))), (5, AB (r i)), (13, AB (r i))] [])) (VC.lend (I i) (St.mk [(3, AI (↑(cntB r i) : Int)), (7, SL false 1 k (MK r)), (8, AI ↑k), (9, AI (IntKind.i64.wrap ((↑i : Int) + 1))), (10, AB (decide ((↑i : Int) < ↑k))), (5, AB (r i)), (13, AB (r i))] [])))) (VC.doneP (AI (↑(cntB r i) : Int))) := by intros; kernel_rfl
theorem ev_nz : ∀ (x : Int), ev G0 res46 [] 3000 Or.nil [.ir ir46] (start [AI x] []) = VC.doneP (AB (x != 0)) := by intros; kernel_rfl
theorem c_nz (x : Int) : PRet Tryz.prog G0 46 [AI x] (AB (x != 0)) := by
  refine PRet.by chk46 (ev_nz x) ?_
  simp only [vcA]
  exact ⟨trivial, trivial⟩
abbrev nzFn : AV := .cl 46 [] []
theorem ev_ixZ : ∀ (nn : Bool) (n : Nat) (f : Nat → Int), ev G0 res72 [] 3000 Or.nil [.ir ir72] (start [IL nn n f, nzFn] []) = VC.loop ir72_L1 [.bend 0, .ir ir72_T2] (St.mk [(0, SL nn 1 n fun i x => PI (f i)), (1, AV.cl 46 [] []), (4, AI 0), (7, AI ↑n), (8, AI 0)] []) := by intros; kernel_rfl
def st_ixZ (nn : Bool) (n : Nat) (f : Nat → Int) (k : Nat) : St := ⟨[(0, IL nn n f), (1, nzFn), (7, AI n), (8, AI k)], []⟩
theorem evr_ixZ : ∀ (nn : Bool) (n : Nat) (f : Nat → Int) (I : Nat → St → Prop) (k : Nat), ev G0 res72 [] 3000 ((Or.call [] (AB (f k != 0)) [] (Or.nil.split Or.nil)).split Or.nil) [.ir ir72_L1, .lend (I k), .bend 0, .ir ir72_T2] (st_ixZ nn n f k) = VC.split (decide ((↑k : Int) < ↑n)) (VC.need (0 ≤ (↑k : Int) ∧ k < n) (VC.call 46 [AI (f k)] [] (AB (f k != 0)) [] (VC.split (f k != 0) (VC.doneP (AI ↑k)) (VC.lend (I k) (St.mk [(0, SL nn 1 n fun i x => PI (f i)), (1, AV.cl 46 [] []), (7, AI ↑n), (8, AI (IntKind.i64.wrap ((↑k : Int) + 1))), (9, AB (decide ((↑k : Int) < ↑n))), (5, AI ↑k), (16, AB (f k != 0))] []))))) (VC.doneP (AI (-1))) := by intros; kernel_rfl
theorem c_ixZ (nn : Bool) (n : Nat) (f : Nat → Int) (hn : n ≤ 1048576) : PSome Tryz.prog G0 72 [IL nn n f, nzFn] [] Int (fun r => decide (0 ≤ r) = !allB (fun i => f i == 0) n) (fun r => AI r) (fun _ => []) := by
  refine PCall.by chk72 rfl (ev_ixZ nn n f) ?_
  refine loop_by (st_ixZ nn n f) (fun k => k ≤ n ∧ ∀ j, j < k → (f j == 0) = true) (fun k => n - k) 0 [] [] [] (by simp) ?_ (evr_ixZ nn n f) fun k hk => ?_
  · simp [st_ixZ, leA]
  · obtain ⟨hk, hall⟩ := hk
    simp only [vcA, Int.toNat_natCast]
    refine ⟨fun h1 => ⟨by omega, c_nz _, fun h2 => ?_, fun h2 => Again.mk (k + 1) [] [] [] ⟨by omega, fun j hj => ?_⟩ (by omega) ?_⟩, fun h1 => ?_⟩
    · have : allB (fun i => f i == 0) n = false := allB_no (show k < n by omega) (by simpa using h2)
      exact ⟨k, by simp [this], rfl, trivial⟩
    · by_cases h3 : j = k
      · subst h3; simpa using h2
      · exact hall j (by omega)
    · have e1 : IntKind.i64.wrap ((k : Int) + 1) = ((k + 1 : Nat) : Int) := wrap_in (by omega) (by omega)
      simp only [e1, st_ixZ]
      simp [leA]
    · have : k = n := by omega
      subst this
      have : allB (fun i => f i == 0) k = true := allB_iff.2 hall
      exact ⟨-1, by simp [this], rfl, trivial⟩
theorem ev_cnZ : ∀ (nn : Bool) (n : Nat) (f : Nat → Int), ev G0 res45 [] 3000 (Or.callE [] Int (fun (r : Int) => decide (0 ≤ r) = !allB (fun i => f i == 0) n) (fun (r : Int) => AI r) (fun (x : Int) => []) fun (r : Int) => Or.nil) [.ir ir45] (start [IL nn n f, nzFn] []) = VC.callE Int 72 [SL nn 1 n fun i x => PI (f i), AV.cl 46 [] []] [] (fun (r : Int) => decide (0 ≤ r) = !allB (fun i => f i == 0) n) (fun (r : Int) => AI r) (fun (x : Int) => []) fun (r : Int) => VC.doneP (AB (decide (0 ≤ r))) := by intros; kernel_rfl
theorem c_cnZ (nn : Bool) (n : Nat) (f : Nat → Int) (hn : n ≤ 1048576) : PRet Tryz.prog G0 45 [IL nn n f, nzFn] (AB (!allB (fun i => f i == 0) n)) := by
  refine PRet.by chk45 (ev_cnZ nn n f) ?_
  simp only [vcA, intOf]
  refine ⟨c_ixZ nn n _ hn, fun r hr => ?_⟩
  simp [hr]
theorem ev_imPV : ∀ (n : Nat) (f : Nat → ByteArray) (m : Nat) (w : Nat → Nat) (h : Nat → Nat → Int) (k : Nat) (r : Nat → Bool), ev G0 res13 [] 3000 (Or.call [] (AB (namesB n f)) [] (Or.nil.lit.lit.lit.lit.lit.lit.lit.lit.lit.lit.lit.lit.lit.lit.lit.lit.lit.lit.lit.lit.split (Or.nil.lit.lit.lit.lit.lit.lit.lit.lit.lit.lit.lit.lit.lit.lit.lit.split (Or.nil.lit.lit.lit.lit.lit.lit.lit.split (Or.call [] (AB (rowsB n m w h)) [] (Or.nil.split Or.nil).lit.lit).lit.lit.lit.lit).lit.lit.lit.lit.lit.lit.lit).lit.lit.lit.lit)) [.ir ir13] (start [PD false false false n f m w h k r] []) = VC.call 43 [TL false n f] [] (AB (namesB n f)) [] (VC.split (!namesB n f) (VC.doneP (AB false)) (VC.split (decide (256 < (↑m : Int))) (VC.doneP (AB false)) (VC.split ((↑k : Int) != (↑m : Int)) (VC.doneP (AB false)) (VC.call 44 [TL false n f, RL false m w h] [] (AB (rowsB n m w h)) [] (VC.split (!rowsB n m w h) (VC.doneP (AB false)) (VC.loop ir13_L1 [.bend 0, .ir ir13_T2] (St.mk [(0, AV.ag [TL false n f, RL false m w h, SL false 1 k (MK r)]), (1, .adr 1 0), (2, AB false), (31, AB !rowsB n m w h), (33, RL false m w h), (34, AI ↑m), (35, AI 0)] [(1, .box [TL false n f, RL false m w h, SL false 1 k (MK r)])]))))))) := by intros; kernel_rfl
def st_imPV (n : Nat) (f : Nat → ByteArray) (m : Nat) (w : Nat → Nat) (h : Nat → Nat → Int) (k : Nat) (r : Nat → Bool) (i : Nat) : St := ⟨[(1, .adr 1 0), (33, RL false m w h), (34, AI m), (35, AI i)], [(1, .box [TL false n f, RL false m w h, ML false k r])]⟩
theorem evr_imPV : ∀ (n : Nat) (f : Nat → ByteArray) (m : Nat) (w : Nat → Nat) (h : Nat → Nat → Int) (k : Nat) (r : Nat → Bool) (I : Nat → St → Prop) (i : Nat), ev G0 res13 [] 3000 (((Or.call [] (AB !allB (fun i_1 => h i i_1 == 0) (w i)) [] (Or.nil.split Or.nil).lit).lit.split Or.nil.lit.lit.lit).split Or.nil) [.ir ir13_L1, .lend (I i), .bend 0, .ir ir13_T2] (st_imPV n f m w h k r i) = VC.split (decide ((↑i : Int) < ↑m)) (VC.need (0 ≤ (↑i : Int) ∧ i < m) (VC.need (0 ≤ (↑i : Int) ∧ i < k) (VC.split (!r i) (VC.call 45 [SL false 1 (w i) fun j x => PI (h i j), AV.cl 46 [] []] [] (AB !allB (fun i_1 => h i i_1 == 0) (w i)) [] (VC.split (!allB (fun i_1 => h i i_1 == 0) (w i)) (VC.doneP (AB false)) (VC.lend (I i) (St.mk [(1, .adr 1 0), (33, RL false m w h), (34, AI ↑m), (35, AI (IntKind.i64.wrap ((↑i : Int) + 1))), (36, AB (decide ((↑i : Int) < ↑m))), (3, AI ↑i), (4, SL false 1 (w i) fun j x => PI (h i j)), (49, AB !allB (fun i_1 => h i i_1 == 0) (w i))] [(1, .box [TL false n f, RL false m w h, SL false 1 k (MK r)])])))) (VC.lend (I i) (St.mk [(1, .adr 1 0), (33, RL false m w h), (34, AI ↑m), (35, AI (IntKind.i64.wrap ((↑i : Int) + 1))), (36, AB (decide ((↑i : Int) < ↑m))), (3, AI ↑i), (4, SL false 1 (w i) fun j x => PI (h i j)), (49, AB false)] [(1, .box [TL false n f, RL false m w h, SL false 1 k (MK r)])]))))) (VC.doneP (AB true)) := by intros; kernel_rfl
theorem ev_spPV : ∀ (n : Nat) (f : Nat → ByteArray) (m : Nat) (w : Nat → Nat) (h : Nat → Nat → Int) (k : Nat) (r : Nat → Bool), ev G0 res27 [] 3000 Or.nil [.ir ir27] (start [PD false false false n f m w h k r] []) = VC.loop ir27_L3 [.bend 0, .ir ir27_T4] (St.mk [(0, AV.ag [TL false n f, RL false m w h, SL false 1 k (MK r)]), (1, .adr 1 0), (2, AB false), (3, AI 0)] [(1, .box [TL false n f, RL false m w h, SL false 1 k (MK r)])]) := by intros; kernel_rfl
def st_spPV (n : Nat) (f : Nat → ByteArray) (m : Nat) (w : Nat → Nat) (h : Nat → Nat → Int) (k : Nat) (r : Nat → Bool) (i : Nat) : St := ⟨[(1, .adr 1 0), (3, AI i)], [(1, .box [TL false n f, RL false m w h, ML false k r])]⟩
theorem evr_spPV : ∀ (n : Nat) (f : Nat → ByteArray) (m : Nat) (w : Nat → Nat) (h : Nat → Nat → Int) (k : Nat) (r : Nat → Bool) (I : Nat → St → Prop) (i : Nat), ev G0 res27 [] 3000 ((Or.nil.split Or.nil).split (Or.call [] (AB (namesB n f)) [] ((Or.nil.lit.lit.lit.lit.lit.lit.lit.split Or.nil.lit.lit.lit.lit.lit.lit.lit).lit.lit.lit.lit.split Or.nil.lit.lit.lit.lit.lit.lit.lit.lit.lit.lit.lit.lit))) [.ir ir27_L3, .lend (I i), .bend 0, .ir ir27_T4] (st_spPV n f m w h k r i) = VC.split (decide ((↑i : Int) < ↑m)) (VC.need (0 ≤ (↑i : Int) ∧ i < m) (VC.split ((↑(w i) : Int) != (↑n : Int)) (VC.doneP (AB false)) (VC.loop ir27_L1 [.bend 2, .bend 1, .ir ir27_T2, .lend (I i), .bend 0, .ir ir27_T4] (St.mk [(1, .adr 1 0), (3, AI ↑i), (9, AB (decide ((↑i : Int) < ↑m))), (21, AB ((↑(w i) : Int) != (↑n : Int))), (4, AI 0)] [(1, .box [TL false n f, RL false m w h, SL false 1 k (MK r)])])))) (VC.call 29 [TL false n f] [] (AB (namesB n f)) [] (VC.split (namesB n f) (VC.split (decide ((↑m : Int) ≤ 256)) (VC.doneP (AB ((↑k : Int) == ↑m))) (VC.doneP (AB false))) (VC.doneP (AB false)))) := by intros; kernel_rfl
def st_spPV2 (n : Nat) (f : Nat → ByteArray) (m : Nat) (w : Nat → Nat) (h : Nat → Nat → Int) (k : Nat) (r : Nat → Bool) (i j : Nat) : St := ⟨[(1, .adr 1 0), (3, AI i), (4, AI j)], [(1, .box [TL false n f, RL false m w h, ML false k r])]⟩
theorem evr_spPV2 : ∀ (n : Nat) (f : Nat → ByteArray) (m : Nat) (w : Nat → Nat) (h : Nat → Nat → Int) (k : Nat) (r : Nat → Bool) (i : Nat) (I J : Nat → St → Prop) (j : Nat), ev G0 res27 [] 3000 ((Or.call [] (AB (inB (h i j) (-100000) 100000)) [] (Or.nil.lit.lit.lit.lit.lit.lit.lit.lit.lit.lit.split (((Or.nil.split Or.nil).lit.lit.lit.lit.lit.lit.lit.lit.lit.lit.lit.split Or.nil.lit.lit.lit.lit.lit.lit.lit.lit.lit.lit.lit.lit).lit.lit.lit.lit.lit.lit.lit.lit.split Or.nil.lit.lit.lit.lit.lit.lit.lit.lit.lit.lit.lit.lit.lit.lit.lit.lit.lit.lit.lit.lit.lit).lit.lit.lit.lit.lit)).split Or.nil) [.ir ir27_L1, .lend (J j), .bend 2, .bend 1, .ir ir27_T2, .lend (I i), .bend 0, .ir ir27_T4] (st_spPV2 n f m w h k r i j) = VC.need (0 ≤ (↑i : Int) ∧ i < m) (VC.split (decide ((↑j : Int) < (↑(w i) : Int))) (VC.need (0 ≤ (↑i : Int) ∧ i < m) (VC.need (0 ≤ (↑j : Int) ∧ j < w i) (VC.call 61 [AI (h i j), AI (-100000), AI 100000] [] (AB (inB (h i j) (-100000) 100000)) [] (VC.split (!inB (h i j) (-100000) 100000) (VC.doneP (AB false)) (VC.split (decide ((↑i : Int) < ↑k)) (VC.need (0 ≤ (↑i : Int) ∧ i < k) (VC.split (!r i) (VC.need (0 ≤ (↑i : Int) ∧ i < m) (VC.need (0 ≤ (↑j : Int) ∧ j < w i) (VC.split (h i j != 0) (VC.doneP (AB false)) (VC.lend (J j) (St.mk [(1, .adr 1 0), (3, AI ↑i), (4, AI (IntKind.i64.wrap ((↑j : Int) + 1))), (29, AB (decide ((↑j : Int) < (↑(w i) : Int)))), (67, AB (h i j != 0))] [(1, .box [TL false n f, RL false m w h, SL false 1 k (MK r)])]))))) (VC.lend (J j) (St.mk [(1, .adr 1 0), (3, AI ↑i), (4, AI (IntKind.i64.wrap ((↑j : Int) + 1))), (29, AB (decide ((↑j : Int) < (↑(w i) : Int)))), (67, AB false)] [(1, .box [TL false n f, RL false m w h, SL false 1 k (MK r)])])))) (VC.lend (J j) (St.mk [(1, .adr 1 0), (3, AI ↑i), (4, AI (IntKind.i64.wrap ((↑j : Int) + 1))), (29, AB (decide ((↑j : Int) < (↑(w i) : Int)))), (67, AB false)] [(1, .box [TL false n f, RL false m w h, SL false 1 k (MK r)])]))))))) (VC.lend (I i) (St.mk [(1, .adr 1 0), (3, AI (IntKind.i64.wrap ((↑i : Int) + 1))), (4, AI ↑j), (29, AB (decide ((↑j : Int) < (↑(w i) : Int))))] [(1, .box [TL false n f, RL false m w h, SL false 1 k (MK r)])]))) := by intros; kernel_rfl
theorem sameM_no {k : Nat} {r r' : Nat → Bool} {i : Nat} (hi : i < k) (h : (r i == r' i) = false) : sameM k r k r' = false := by
  simp only [sameM, allB_no (p := fun i => r i == r' i) hi h, Bool.and_false]
theorem c_sM (nn nn' : Bool) (k : Nat) (r : Nat → Bool) (k' : Nat) (r' : Nat → Bool) (hk : k ≤ 1048576) : PRet Tryz.prog G0 36 [ML nn k r, ML nn' k' r'] (AB (sameM k r k' r')) := by
  refine PRet.by chk36 (ev_sM nn nn' k r k' r') ?_
  simp only [vcA]
  refine ⟨fun h => ?_, fun h => ?_⟩
  · have : ¬ k = k' := by simp at h; omega
    simp [sameM, this]
  · have hkk : k = k' := by simp at h; omega
    subst hkk
    refine loop_by (st_sM nn nn' k r r') (fun i => i ≤ k ∧ ∀ j, j < i → (r j == r' j) = true) (fun i => k - i) 0 [] [] [] (by simp) ?_ (evr_sM nn nn' k r r') fun i hi => ?_
    · simp [st_sM, leA, PV.Le_self]
    · obtain ⟨hi, hall⟩ := hi
      have e1 : IntKind.i64.wrap ((i : Int) + 1) = ((i + 1 : Nat) : Int) := wrap_in (by omega) (by omega)
      simp only [vcA, Int.toNat_natCast]
      refine ⟨fun h1 => ⟨⟨by omega, by omega⟩, ⟨by omega, by omega⟩, fun h2 => ?_, fun h2 => Again.mk (i + 1) [] [] [] ⟨by omega, fun j hj => ?_⟩ (by omega) ?_⟩, fun h1 => ?_⟩
      · have h3 : (r i == r' i) = false := by simpa using h2
        rw [sameM_no (show i < k by omega) h3]; exact ⟨rfl, trivial⟩
      · by_cases h4 : j = i
        · subst h4; simpa using h2
        · exact hall j (by omega)
      · simp [st_sM, leA, PV.Le_self, e1]
      · have : i = k := by omega
        subst this
        have : allB (fun j => r j == r' j) i = true := allB_iff.2 hall
        simp [sameM, this]
theorem cntB_le (r : Nat → Bool) : ∀ k, cntB r k ≤ k
  | 0 => Nat.le_refl _
  | k + 1 => by
    have := cntB_le r k
    simp only [cntB]; split <;> omega
theorem c_re (n : Nat) (f : Nat → ByteArray) (m : Nat) (w : Nat → Nat) (h : Nat → Nat → Int) (k : Nat) (r : Nat → Bool) (hk : k ≤ 1048576) : PRet Tryz.prog G0 39 [PD false false false n f m w h k r] (AI (cntB r k)) := by
  refine PRet.by chk39 (ev_re n f m w h k r) ?_
  refine loop_by (st_re k r) (fun i => i ≤ k) (fun i => k - i) 0 [] [] [] (Nat.zero_le _) ?_ (evr_re k r) fun i hi => ?_
  · simp [st_re, leA, PV.Le_self, cntB]
  · have e1 : IntKind.i64.wrap ((i : Int) + 1) = ((i + 1 : Nat) : Int) := wrap_in (by omega) (by omega)
    have hc := cntB_le r i
    have e2 : IntKind.i64.wrap ((cntB r i : Int) + 1) = ((cntB r i + 1 : Nat) : Int) := wrap_in (by omega) (by omega)
    simp only [vcA, Int.toNat_natCast]
    refine ⟨fun h1 => ⟨⟨by omega, by omega⟩, fun h2 => Again.mk (i + 1) [] [] [] (by omega) (by omega) ?_, fun h2 => Again.mk (i + 1) [] [] [] (by omega) (by omega) ?_⟩, fun h1 => ?_⟩
    · simp [st_re, leA, PV.Le_self, e1, e2, cntB, h2]
    · simp [st_re, leA, PV.Le_self, e1, e2, cntB, h2]
    · have : i = k := by omega
      subst this
      simp
def zB (w : Nat → Nat) (h : Nat → Nat → Int) (r : Nat → Bool) (i : Nat) : Bool := r i || allB (fun j => h i j == 0) (w i)
def padB (n : Nat) (f : Nat → ByteArray) (m : Nat) (w : Nat → Nat) (h : Nat → Nat → Int) (k : Nat) (r : Nat → Bool) : Bool := namesB n f && decide (m ≤ 256) && decide (k = m) && rowsB n m w h && allB (zB w h r) m
structure PdOk (n : Nat) (f : Nat → ByteArray) (m : Nat) (w : Nat → Nat) (k : Nat) : Prop where
  ta : TaOk n f m w
  hk : k ≤ 1048576
theorem c_imPV (n : Nat) (f : Nat → ByteArray) (m : Nat) (w : Nat → Nat) (h : Nat → Nat → Int) (k : Nat) (r : Nat → Bool) (ok : PdOk n f m w k) : PRet Tryz.prog G0 13 [PD false false false n f m w h k r] (AB (padB n f m w h k r)) := by
  have hm := ok.ta.hm
  refine PRet.by chk13 (ev_imPV n f m w h k r) ?_
  simp only [vcA]
  refine ⟨c_cols _ _ _ ok.ta.hn ok.ta.hf, fun h1 => ?_, fun h1 => ⟨fun h2 => ?_, fun h2 => ⟨fun h3 => ?_, fun h3 => ⟨c_fit _ _ _ _ _ _ _ ok.ta.hm ok.ta.hw, fun h4 => ?_, fun h4 => ?_⟩⟩⟩⟩
  · simp [padB, (by simpa using h1 : namesB n f = false)]
  · have : ¬ m ≤ 256 := by omega
    simp [padB, this]
  · have : ¬ k = m := by simp at h3; omega
    simp [padB, this]
  · simp [padB, (by simpa using h4 : rowsB n m w h = false)]
  · have hkm : k = m := by simp at h3; omega
    have g1 : namesB n f = true := by simpa using h1
    have g2 : m ≤ 256 := by omega
    have g4 : rowsB n m w h = true := by simpa using h4
    subst hkm
    refine loop_by (st_imPV n f k w h k r) (fun i => i ≤ k ∧ ∀ j, j < i → zB w h r j = true) (fun i => k - i) 0 [] [] [] (by simp) ?_ (evr_imPV n f k w h k r) fun i hi => ?_
    · simp [st_imPV, leA, PV.Le_self]
    · obtain ⟨hi, hall⟩ := hi
      have e1 : IntKind.i64.wrap ((i : Int) + 1) = ((i + 1 : Nat) : Int) := wrap_in (by omega) (by omega)
      have up : zB w h r i = true → ∀ j, j < i + 1 → zB w h r j = true := fun hz j hj => by
        by_cases e : j = i
        · subst e; exact hz
        · exact hall j (by omega)
      simp only [vcA, Int.toNat_natCast]
      refine ⟨fun h5 => ⟨⟨by omega, by omega⟩, ⟨by omega, by omega⟩, fun h6 => ⟨c_cnZ _ _ _ (ok.ta.hw i (by omega)), fun h7 => ?_, fun h7 => Again.mk (i + 1) [] [] [] ⟨by omega, up ?_⟩ (by omega) ?_⟩, fun h6 => Again.mk (i + 1) [] [] [] ⟨by omega, up ?_⟩ (by omega) ?_⟩, fun h5 => ?_⟩
      · have hz : zB w h r i = false := by
          simp only [zB, (by simpa using h6 : r i = false), (by simpa using h7 : allB (fun j => h i j == 0) (w i) = false), Bool.or_self]
        simp [padB, allB_no (show i < k by omega) hz]
      · simp only [zB, (by simpa using h7 : allB (fun j => h i j == 0) (w i) = true), Bool.or_true]
      · simp [st_imPV, leA, PV.Le_self, e1]
      · simp only [zB, (by simpa using h6 : r i = true), Bool.true_or]
      · simp [st_imPV, leA, PV.Le_self, e1]
      · have : i = k := by omega
        subst this
        have : allB (zB w h r) i = true := allB_iff.2 hall
        simp [padB, this, g1, g2, g4]
def srB (n : Nat) (w : Nat → Nat) (h : Nat → Nat → Int) (k : Nat) (r : Nat → Bool) (i : Nat) : Bool := decide (w i = n) && allB (fun j => valB (h i j) && !(decide (i < k) && !r i && h i j != 0)) (w i)
theorem padB_eq (n : Nat) (f : Nat → ByteArray) (m : Nat) (w : Nat → Nat) (h : Nat → Nat → Int) (k : Nat) (r : Nat → Bool) : padB n f m w h k r = (allB (srB n w h k r) m && namesB n f && decide (m ≤ 256) && decide (k = m)) := by
  by_cases hk : k = m
  · subst hk
    have : (rowsB n k w h && allB (zB w h r) k) = allB (srB n w h k r) k := by
      rw [Bool.eq_iff_iff, Bool.and_eq_true]
      simp only [rowsB, allB_iff, rowB, zB, srB, Bool.and_eq_true, Bool.or_eq_true]
      constructor
      · intro ⟨a, b⟩ i hi
        refine ⟨(a i hi).1, fun j hj => ⟨(a i hi).2 j hj, ?_⟩⟩
        rcases b i hi with c | c
        · simp [c]
        · have := c j hj
          simp [beq_iff_eq.1 this]
      · intro a
        refine ⟨fun i hi => ⟨(a i hi).1, fun j hj => ((a i hi).2 j hj).1⟩, fun i hi => ?_⟩
        cases hr : r i with
        | true => exact .inl rfl
        | false =>
          refine .inr fun j hj => ?_
          have := ((a i hi).2 j hj).2
          simpa [hr, hi] using this
    simp only [padB]
    rw [← this]
    cases namesB n f <;> cases rowsB n k w h <;> cases allB (zB w h r) k <;> simp
  · simp [padB, hk]
theorem c_spPV (n : Nat) (f : Nat → ByteArray) (m : Nat) (w : Nat → Nat) (h : Nat → Nat → Int) (k : Nat) (r : Nat → Bool) (ok : PdOk n f m w k) : PRet Tryz.prog G0 27 [PD false false false n f m w h k r] (AB (padB n f m w h k r)) := by
  have hm := ok.ta.hm
  rw [padB_eq]
  refine PRet.by chk27 (ev_spPV n f m w h k r) ?_
  refine loop_by (st_spPV n f m w h k r) (fun i => i ≤ m ∧ ∀ j, j < i → srB n w h k r j = true) (fun i => m - i) 0 [] [] [] (by simp) ?_ (evr_spPV n f m w h k r) fun i hi => ?_
  · simp [st_spPV, leA, PV.Le_self]
  · obtain ⟨hi, hall⟩ := hi
    have e1 : IntKind.i64.wrap ((i : Int) + 1) = ((i + 1 : Nat) : Int) := wrap_in (by omega) (by omega)
    simp only [vcA, Int.toNat_natCast]
    refine ⟨fun h1 => ⟨⟨by omega, by omega⟩, fun h2 => ?_, fun h2 => ?_⟩, fun h1 => ⟨c_spN _ _ _ ok.ta.hn ok.ta.hf, fun h2 => ⟨fun h3 => ?_, fun h3 => ?_⟩, fun h2 => ?_⟩⟩
    · have : ¬ w i = n := by simp at h2; omega
      have hz : srB n w h k r i = false := by simp [srB, this]
      simp [allB_no (show i < m by omega) hz]
    · have hwn : w i = n := by simp at h2; omega
      have hwi := ok.ta.hw i (by omega)
      refine loop_by (st_spPV2 n f m w h k r i) (fun j => j ≤ w i ∧ ∀ l, l < j → (valB (h i l) && !(decide (i < k) && !r i && h i l != 0)) = true) (fun j => w i - j) 0 [] [] [] (by simp) ?_ (fun J j => evr_spPV2 n f m w h k r i _ J j) fun j hj => ?_
      · simp [st_spPV2, leA, PV.Le_self]
      · obtain ⟨hj, hrow⟩ := hj
        have e2 : IntKind.i64.wrap ((j : Int) + 1) = ((j + 1 : Nat) : Int) := wrap_in (by omega) (by omega)
        have bad : j < w i → (valB (h i j) && !(decide (i < k) && !r i && h i j != 0)) = false → srB n w h k r i = false := fun a b => by
          simp only [srB, allB_no (p := fun j => valB (h i j) && !(decide (i < k) && !r i && h i j != 0)) a b, Bool.and_false]
        have up : (valB (h i j) && !(decide (i < k) && !r i && h i j != 0)) = true → ∀ l, l < j + 1 → (valB (h i l) && !(decide (i < k) && !r i && h i l != 0)) = true := fun a l hl => by
          by_cases e : l = j
          · subst e; exact a
          · exact hrow l (by omega)
        simp only [vcA, Int.toNat_natCast]
        refine ⟨⟨by omega, by omega⟩, fun h3 => ⟨⟨by omega, by omega⟩, ⟨by omega, by omega⟩, c_l1In _ _ _, fun h4 => ?_, fun h4 => ⟨fun h5 => ⟨⟨by omega, by omega⟩, fun h6 => ⟨⟨by omega, by omega⟩, ⟨by omega, by omega⟩, fun h7 => ?_, fun h7 => Again.mk (j + 1) [] [] [] ⟨by omega, up ?_⟩ (by omega) ?_⟩, fun h6 => Again.mk (j + 1) [] [] [] ⟨by omega, up ?_⟩ (by omega) ?_⟩, fun h5 => Again.mk (j + 1) [] [] [] ⟨by omega, up ?_⟩ (by omega) ?_⟩⟩, fun h3 => Again.mk (i + 1) [] [] [] ⟨by omega, fun l hl => ?_⟩ (by omega) ?_⟩
        · have hz := bad (by omega) (by simp only [valB, (by simpa using h4 : inB (h i j) (-100000) 100000 = false), Bool.false_and])
          simp [allB_no (show i < m by omega) hz]
        · have hz := bad (by omega) (by simp only [(by omega : i < k), decide_true, h6, h7, Bool.and_self, Bool.not_true, Bool.and_false])
          simp [allB_no (show i < m by omega) hz]
        · simp only [valB, (by simpa using h4 : inB (h i j) (-100000) 100000 = true), h7, Bool.and_false, Bool.not_false, Bool.and_self]
        · simp [st_spPV2, leA, PV.Le_self, e2]
        · simp only [valB, (by simpa using h4 : inB (h i j) (-100000) 100000 = true), h6, Bool.and_false, Bool.false_and, Bool.not_false, Bool.and_self]
        · simp [st_spPV2, leA, PV.Le_self, e2]
        · have h5' : ¬ i < k := by omega
          simp only [valB, (by simpa using h4 : inB (h i j) (-100000) 100000 = true), h5', decide_false, Bool.false_and, Bool.not_false, Bool.and_self]
        · simp [st_spPV2, leA, PV.Le_self, e2]
        · by_cases e : l = i
          · subst e
            have : j = w l := by omega
            subst this
            simp only [srB, hwn, decide_true, Bool.true_and]
            rw [hwn] at hrow
            exact allB_iff.2 hrow
          · exact hall l (by omega)
        · simp [st_spPV, leA, PV.Le_self, e1]
    · have : i = m := by omega
      subst this
      have g : allB (srB n w h k r) i = true := allB_iff.2 hall
      have e9 : ((k : Int) == (i : Int)) = decide (k = i) := by
        by_cases e : k = i
        · simp [e]
        · have : ¬ (k : Int) = i := by omega
          simp [e, this]
      simp [g, h2, (by omega : i ≤ 256), e9]
    · have : ¬ m ≤ 256 := by omega
      simp [this]
    · simp [h2]
theorem allV1 {g : Nat → Nat → PV} (h : (g 0 0).isV = true) : allV 1 1 g := fun i j hi hj => by
  obtain rfl : i = 0 := by omega
  obtain rfl : j = 0 := by omega
  exact h
theorem allOne1 {g : Nat → Nat → PV} (h : (g 0 0).one = true) : allOne 1 1 g := fun i j hi hj => by
  obtain rfl : i = 0 := by omega
  obtain rfl : j = 0 := by omega
  exact h
theorem MK_le {r r' : Nat → Bool} {i : Nat} (h : r i = r' i) : PV.Le (MK r i 0) (MK r' i 0) := by simp only [MK, h]; exact .refl _
theorem MK_le' {b : Bool} {r : Nat → Bool} {i : Nat} (h : b = r i) : PV.Le (.v (.bool b)) (MK r i 0) := by simp only [MK, h]; exact .refl _
end Go.Gw
