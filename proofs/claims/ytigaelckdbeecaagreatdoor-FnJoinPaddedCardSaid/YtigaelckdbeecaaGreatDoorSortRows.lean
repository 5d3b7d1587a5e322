/- SortRows, of the program and of the model; with no condition. -/
import Derived.Test.YtigaelckdbeecaaGreatDoorSort
import Derived.KernelRfl
namespace Go.Gw
open Go Go.Proofs
set_option linter.unusedSimpArgs false
set_option linter.unusedVariables false
set_option maxRecDepth 100000
def ir49 : Ir := (.seq (.reg [] [o 1 (.box 2 (tt 0)), o 2 (.alloc [(.slice none 0 0), (.slice none 0 0)])]) (.seq (.seq (.reg [4, 5] [o 4 (.load true 2 (tt 1)), o 5 (.call 41 [(tt 4)]), o 6 (.un .not (tt 5))]) (.cond (tt 6) (.seq (.reg [7] [o 7 (.build [(.slice none 0 0), (.slice none 0 0)] []), on (.store 2 (tt 2) (tt 7))]) .ret) .skip)) (.seq (.reg [8, 9] [o 8 (.load true 2 (tt 1)), o 9 (.call 73 [(tt 8)]), o 3 (.alloc [(.slice none 0 0), (.slice none 0 0)]), on (.store 2 (tt 3) (tt 9))]) (.seq (.reg [10, 11, 12] [oa 10 1 3, ol 11 10, o 12 (.call 74 [(tt 11), (.func 75)])]) (.seq (.reg [13] [o 13 (.load true 2 (tt 3)), on (.store 2 (tt 2) (tt 13))]) .ret)))))
def keep49 : List Nat := [0, 1, 2, 3, 6]
def res49 : List RI := [.cell true 2 2]
theorem chk49 : chk Tryz.prog 49 1 keep49 = some (ir49, res49) := by kernel_rfl

theorem ev_imSR : ∀ (n : Nat) (f : Nat → ByteArray) (m : Nat) (w : Nat → Nat) (h : Nat → Nat → Int), ev G0 res49 [] 3000 (Or.call [] (AB (tableB n f m w h)) [] (Or.nil.split (Or.call [] taR (taH n f m w h) (Or.call [2009] (AV.tp []) [(0, .row .u false 1 m (RR (wL (srtA m w h)) (hL (srtA m w h))) [])] Or.nil)))) [.ir ir49] (start [TA false false n f m w h] []) = VC.call 41 [AV.ag [TL false n f, RL false m w h]] [] (AB (tableB n f m w h)) [] (VC.split (!tableB n f m w h) (VC.done (St.mk [(0, AV.ag [TL false n f, RL false m w h]), (1, .adr 1 0), (2, .adr 2 0), (6, AB !tableB n f m w h)] [(1, .box [TL false n f, RL false m w h]), (2, .box [AV.p true (PV.v (Value.slice none 0 0)), AV.p true (PV.v (Value.slice none 0 0))])])) (VC.call 73 [AV.ag [TL false n f, RL false m w h]] [] taR (taH n f m w h) (VC.call 74 [.own 0, AV.cl 75 [] []] [(0, .row .u false 1 m (RR w h) [])] (AV.tp []) [(0, .row .u false 1 m (RR (wL (srtA m w h)) (hL (srtA m w h))) [])] (VC.done (St.mk [(0, AV.ag [TL false n f, RL false m w h]), (1, .adr 1 0), (2, .adr 2 0), (6, AB !tableB n f m w h), (3, .adr 3 0)] [(1, .box [TL false n f, RL false m w h]), (2, .box [.own 1009, .own 2009]), (1009, .row .u false 1 n (TR f) []), (2009, .row .u false 1 m (RR (wL (srtA m w h)) (hL (srtA m w h))) []), (3, .box [.own 1009, .own 2009])]))))) := by intros; kernel_rfl
/-! ### insertion -/
theorem rowL_hL (S : List (List Int)) (i : Nat) : rowL (wL S i) (hL S i) 0 = S.getD i [] := by
  apply List.ext_getElem
  · rw [rowL_len]; rfl
  · intro j h1 h2
    have hj : j < wL S i := by rw [rowL_len] at h1; exact h1
    have := rowL_get (n := wL S i) (f := hL S i) hj
    rw [List.getD_eq_getElem?_getD, List.getElem?_eq_getElem h1] at this
    simp only [Option.getD_some] at this
    rw [this]
    simp only [hL]
    rw [List.getD_eq_getElem?_getD (l := S.getD i []), List.getElem?_eq_getElem h2]
    rfl
theorem tabL_succ {k : Nat} {w : Nat → Nat} {h : Nat → Nat → Int} : tabL (k + 1) w h = tabL k w h ++ [rowL (w k) (h k) 0] := by simp [tabL, List.range_succ]
/-! ### SortRows -/
def srN (n : Nat) (f : Nat → ByteArray) (m : Nat) (w : Nat → Nat) (h : Nat → Nat → Int) : Nat := if tableB n f m w h then n else 0
def srM (n : Nat) (f : Nat → ByteArray) (m : Nat) (w : Nat → Nat) (h : Nat → Nat → Int) : Nat := if tableB n f m w h then m else 0
abbrev srH (n : Nat) (f : Nat → ByteArray) (m : Nat) (w : Nat → Nat) (h : Nat → Nat → Int) : List (Nat × Ob) := taH (srN n f m w h) f (srM n f m w h) (wL (srtA m w h)) (hL (srtA m w h))
theorem c_imSR (n : Nat) (f : Nat → ByteArray) (m : Nat) (w : Nat → Nat) (h : Nat → Nat → Int) (ok : TaOk n f m w) : PObj Tryz.prog G0 49 [TA false false n f m w h] [] taR (srH n f m w h) := by
  refine PObj.by chk49 rfl (ev_imSR n f m w h) ?_
  simp only [vcA]
  refine ⟨c_imTV _ _ _ _ _ _ _ ok.hn ok.hf ok.hm ok.hw, fun h1 => ?_, fun h1 => ⟨c_clA _ _ _ _ _ ok.hn ok.hm ok.hw, c_sortA _ _ _ _ ok.hm ok.hw, ?_⟩⟩
  · have e : tableB n f m w h = false := by simpa using h1
    simp only [srH, srN, srM, e]
    refine ResOk.mk [] [] [0, 1] _ _ ?_ ⟨rfl, rfl⟩
    simp [doneC, resOf, resAV, tup, pinR, PV.Le_self, leA, res49]
  · have e : tableB n f m w h = true := by simpa using h1
    simp only [srH, srN, srM, e]
    refine ResOk.mk [] [(0, 1009), (1, 2009)] [] _ _ ?_ ⟨rfl, rfl⟩
    simp [doneC, resOf, resAV, tup, pinR, PV.Le_self, leA, res49]
end Go.Gw

namespace Go.Gw
open Go Go.Proofs
set_option linter.unusedSimpArgs false
set_option linter.unusedVariables false
set_option maxRecDepth 100000

theorem srt_perm (S : List (List Int)) : (srtL ltL S).Perm S := List.mergeSort_perm _ _
theorem srt_len (m : Nat) (w : Nat → Nat) (h : Nat → Nat → Int) : (srtA m w h).length = m := by rw [(srt_perm _).length_eq, tabL_len]
structure SrB (n : Nat) (f : Nat → ByteArray) (m : Nat) (w : Nat → Nat) (h : Nat → Nat → Int) : Prop where
  hn : srN n f m w h ≤ 1048576
  hm : srM n f m w h ≤ 1048576
  hs : sumN (wL (srtA m w h)) (srM n f m w h) ≤ 1048576
  hw : ∀ i, i < srM n f m w h → wL (srtA m w h) i ≤ 1048576
end Go.Gw

namespace Go.Gw
open Go Go.Proofs
set_option linter.unusedSimpArgs false
set_option linter.unusedVariables false
set_option maxRecDepth 100000
def ir47_L1 : Ir := (.seq (.reg [] [ob .lss 14 13 12]) (.seq (.cond (tt 14) .skip (.exit 0)) (.seq (.block 1 (.seq (.reg [15] [om 15 13, om 5 15]) (.seq (.dreg [16, 17, 18, 19, 20, 21, 22, 23] [0, 0, 3, 7, 0, 0, 48, 112, 255] [(3, 1019), (7, 1023)] [om 16 0, om 17 5, ox 18 16 17, ol 19 18, om 20 1, om 21 5, ox 22 20 21, ol 23 22, ob .neq 24 19 23]) (.cond (tt 24) (.seq (.reg [] [o 4 (.mov (cb false))]) .ret) .skip)))) (.reg [25] [o 25 (.bin .add (tt 13) (ci 1)), om 13 25]))))
def ir47_T2 : Ir := (.seq (.reg [] [o 4 (.mov (cb true))]) .ret)
def ir47 : Ir := (.seq (.reg [] [o 4 (.mov (cb false))]) (.seq (.seq (.reg [6, 7, 8, 9] [om 6 0, o 7 (.len (tt 6)), om 8 1, o 9 (.len (tt 8)), ob .neq 10 7 9]) (.cond (tt 10) (.seq (.reg [] [o 4 (.mov (cb false))]) .ret) .skip)) (.seq (.seq (.reg [11] [om 11 0, o 12 (.len (tt 11)), o 13 (.mov (ci 0))]) (.block 0 (.loop ir47_L1))) ir47_T2)))
def keep47 : List Nat := [0, 1, 4, 5, 10, 12, 13, 14, 24]
def res47 : List RI := [.tmp 4]
theorem chk47 : chk Tryz.prog 47 2 keep47 = some (ir47, res47) := by kernel_rfl
def ir50_L1 : Ir := (.seq (.reg [] [ob .lss 14 13 12]) (.seq (.cond (tt 14) .skip (.exit 0)) (.seq (.block 1 (.seq (.reg [15] [om 15 13, om 5 15]) (.seq (.dreg [16, 17, 18, 19, 20, 21, 22, 23] [0, 0, 3, 7, 0, 0, 48, 112, 255] [(3, 1019), (7, 1023)] [om 16 0, om 17 5, ox 18 16 17, ol 19 18, om 20 1, om 21 5, ox 22 20 21, ol 23 22, ob .neq 24 19 23]) (.cond (tt 24) (.seq (.reg [] [o 4 (.mov (cb false))]) .ret) .skip)))) (.reg [25] [o 25 (.bin .add (tt 13) (ci 1)), om 13 25]))))
def ir50_T2 : Ir := (.seq (.reg [] [o 4 (.mov (cb true))]) .ret)
def ir50 : Ir := (.seq (.reg [] [o 4 (.mov (cb false))]) (.seq (.seq (.reg [6, 7, 8, 9] [om 6 0, o 7 (.len (tt 6)), om 8 1, o 9 (.len (tt 8)), ob .neq 10 7 9]) (.cond (tt 10) (.seq (.reg [] [o 4 (.mov (cb false))]) .ret) .skip)) (.seq (.seq (.reg [11] [om 11 0, o 12 (.len (tt 11)), o 13 (.mov (ci 0))]) (.block 0 (.loop ir50_L1))) ir50_T2)))
def keep50 : List Nat := [0, 1, 4, 5, 10, 12, 13, 14, 24]
def res50 : List RI := [.tmp 4]
theorem chk50 : chk Tryz.prog 50 2 keep50 = some (ir50, res50) := by kernel_rfl
def ir48_L1 : Ir := (.seq (.reg [] [ob .lss 18 17 16]) (.seq (.cond (tt 18) .skip (.exit 0)) (.seq (.block 1 (.seq (.reg [19, 20, 21] [om 19 17, ox 20 15 17, ol 21 20, om 7 19, om 8 21]) (.seq (.reg [22, 23, 24, 25] [om 22 1, om 23 7, ox 24 22 23, ol 25 24, om 9 25]) (.seq (.reg [26, 27, 28, 29] [om 26 2, om 27 8, om 28 9, o 29 (.callv (tt 26) [(tt 27), (tt 28)]), o 30 (.un .not (tt 29))]) (.cond (tt 30) (.seq (.reg [] [o 6 (.mov (cb false))]) .ret) .skip))))) (.reg [31] [o 31 (.bin .add (tt 17) (ci 1)), om 17 31]))))
def ir48_T2 : Ir := (.seq (.reg [] [o 6 (.mov (cb true))]) .ret)
def ir48 : Ir := (.seq (.reg [] [o 6 (.mov (cb false))]) (.seq (.seq (.reg [10, 11, 12, 13] [om 10 0, o 11 (.len (tt 10)), om 12 1, o 13 (.len (tt 12)), ob .neq 14 11 13]) (.cond (tt 14) (.seq (.reg [] [o 6 (.mov (cb false))]) .ret) .skip)) (.seq (.seq (.reg [] [om 15 0, o 16 (.len (tt 15)), o 17 (.mov (ci 0))]) (.block 0 (.loop ir48_L1))) ir48_T2)))
def keep48 : List Nat := [0, 1, 2, 6, 7, 8, 9, 14, 15, 16, 17, 18, 30]
def res48 : List RI := [.tmp 6]
theorem chk48 : chk Tryz.prog 48 3 keep48 = some (ir48, res48) := by kernel_rfl
def ir14 : Ir := (.seq (.reg [] [o 2 (.box 2 (tt 0)), o 3 (.box 2 (tt 1)), o 4 (.mov (cb false))]) (.seq (.seq (.reg [5, 6, 7, 8, 9, 10, 11, 12, 13, 14, 15, 16, 17, 18, 19] [o 5 (.load true 2 (tt 2)), o 6 (.call 41 [(tt 5)]), o 7 (.un .not (tt 6)), om 8 7, og 9 8 false (.load true 2 (tt 3)), og 10 8 false (.call 41 [(tt 9)]), og 11 8 false (.un .not (tt 10)), o 12 (.pick (tt 8) (cb true) (tt 11)), om 13 12, og 14 13 false (.fadr 0 (tt 2)), og 15 13 false (.load false 1 (tt 14)), og 16 13 false (.fadr 0 (tt 3)), og 17 13 false (.load false 1 (tt 16)), og 18 13 false (.call 47 [(tt 15), (tt 17)]), og 19 13 false (.un .not (tt 18)), o 20 (.pick (tt 13) (cb true) (tt 19))]) (.cond (tt 20) (.seq (.reg [] [o 4 (.mov (cb false))]) .ret) .skip)) (.seq (.dreg [21, 22, 23, 24, 25, 26, 27] [0, 1, 3, 0, 11, 27, 63, 127] [(0, 1021), (0, 2021), (1, 1022), (1, 2022), (1, 3022), (1, 4022), (1, 5022), (1, 6022), (1, 7022), (1, 8022), (3, 1024), (3, 2024), (4, 1025), (4, 2025), (4, 3025), (4, 4025), (4, 5025), (4, 6025), (4, 7025), (4, 8025), (6, 1027), (6, 2027), (6, 3027), (6, 4027), (6, 5027), (6, 6027), (6, 7027), (6, 8027)] [o 21 (.load true 2 (tt 2)), o 22 (.call 49 [(tt 21)]), o 23 (.fval false 1 1 (tt 22)), o 24 (.load true 2 (tt 3)), o 25 (.call 49 [(tt 24)]), o 26 (.fval false 1 1 (tt 25)), o 27 (.call 48 [(tt 23), (tt 26), (.func 50)]), om 4 27]) .ret)))
def keep14 : List Nat := [0, 1, 2, 3, 4, 20]
def res14 : List RI := [.tmp 4]
theorem chk14 : chk Tryz.prog 14 2 keep14 = some (ir14, res14) := by kernel_rfl

def sameT (n : Nat) (f : Nat → ByteArray) (m : Nat) (g : Nat → ByteArray) : Bool := decide (n = m) && allB (fun i => (f i).toList == (g i).toList) n
def sameR (m : Nat) (w : Nat → Nat) (h : Nat → Nat → Int) (m' : Nat) (w' : Nat → Nat) (h' : Nat → Nat → Int) : Bool := decide (m = m') && allB (fun i => rowL (w i) (h i) 0 == rowL (w' i) (h' i) 0) m
def sameV (n : Nat) (f : Nat → Int) (m : Nat) (g : Nat → Int) : Bool := decide (n = m) && allB (fun i => f i == g i) n
theorem sameV_eq (n : Nat) (f : Nat → Int) (m : Nat) (g : Nat → Int) : sameV n f m g = (rowL n f 0 == rowL m g 0) := by
  rw [Bool.eq_iff_iff]
  simp only [sameV, Bool.and_eq_true, decide_eq_true_eq, allB_iff, beq_iff_eq]
  constructor
  · rintro ⟨rfl, h⟩; exact rowL_congr h
  · intro h
    have h1 : n = m := by have := congrArg List.length h; simpa [rowL_len] using this
    subst h1
    refine ⟨rfl, fun i hi => ?_⟩
    rw [← rowL_get (f := f) hi, h, rowL_get hi]
theorem ev_eqTs : ∀ (nn nn' : Bool) (n : Nat) (f : Nat → ByteArray) (m : Nat) (g : Nat → ByteArray), ev G0 res47 [] 3000 (Or.nil.split Or.nil) [.ir ir47] (start [TL nn n f, TL nn' m g] []) = VC.split ((↑n : Int) != (↑m : Int)) (VC.doneP (AB false)) (VC.loop ir47_L1 [.bend 0, .ir ir47_T2] (St.mk [(0, TL nn n f), (1, SL nn' 1 m fun i x => PT (g i)), (4, AB false), (10, AB ((↑n : Int) != (↑m : Int))), (12, AI ↑n), (13, AI 0)] [])) := by intros; kernel_rfl
def st_eqTs (nn nn' : Bool) (n : Nat) (f : Nat → ByteArray) (m : Nat) (g : Nat → ByteArray) (k : Nat) : St := ⟨[(0, TL nn n f), (1, TL nn' m g), (12, AI n), (13, AI k)], []⟩
theorem evr_eqTs : ∀ (nn nn' : Bool) (n : Nat) (f : Nat → ByteArray) (m : Nat) (g : Nat → ByteArray) (I : Nat → St → Prop) (k : Nat), ev G0 res47 [] 3000 ((Or.nil.split Or.nil).split Or.nil) [.ir ir47_L1, .lend (I k), .bend 0, .ir ir47_T2] (st_eqTs nn nn' n f m g k) = VC.split (decide ((↑k : Int) < ↑n)) (VC.need (0 ≤ (↑k : Int) ∧ k < n) (VC.need (0 ≤ (↑k : Int) ∧ k < m) (VC.split (!(f k).toList == (g k).toList) (VC.doneP (AB false)) (VC.lend (I k) (St.mk [(0, TL nn n f), (1, SL nn' 1 m fun i x => PT (g i)), (12, AI ↑n), (13, AI (IntKind.i64.wrap ((↑k : Int) + 1))), (14, AB (decide ((↑k : Int) < ↑n))), (5, AI ↑k), (24, AB !(f k).toList == (g k).toList)] []))))) (VC.doneP (AB true)) := by intros; kernel_rfl
theorem c_eqTs (nn nn' : Bool) (n : Nat) (f : Nat → ByteArray) (m : Nat) (g : Nat → ByteArray) (hn : n ≤ 1048576) : PRet Tryz.prog G0 47 [TL nn n f, TL nn' m g] (AB (sameT n f m g)) := by
  refine PRet.by chk47 (ev_eqTs nn nn' n f m g) ?_
  simp only [vcA]
  refine ⟨fun h => ?_, fun h => ?_⟩
  · have : ¬ n = m := by simp at h; omega
    simp [sameT, this]
  have hnm : n = m := by simp at h; omega
  subst hnm
  refine loop_by (st_eqTs nn nn' n f n g) (fun k => k ≤ n ∧ ∀ j, j < k → ((f j).toList == (g j).toList) = true) (fun k => n - k) 0 [] [] [] (by simp) ?_ (evr_eqTs nn nn' n f n g) fun k hk => ?_
  · simp [st_eqTs, leA, PV.Le_self]
  · obtain ⟨hk, hall⟩ := hk
    simp only [vcA, Int.toNat_natCast]
    refine ⟨fun h1 => ⟨by omega, by omega, fun h2 => ?_, fun h2 => Again.mk (k + 1) [] [] [] ⟨by omega, fun j hj => ?_⟩ (by omega) ?_⟩, fun h1 => ?_⟩
    · have h3 : ((f k).toList == (g k).toList) = false := by simpa using h2
      simp [sameT, allB_no (p := fun i => (f i).toList == (g i).toList) (show k < n by omega) h3]
    · by_cases h3 : j = k
      · subst h3; simpa using h2
      · exact hall j (by omega)
    · have e1 : IntKind.i64.wrap ((k : Int) + 1) = ((k + 1 : Nat) : Int) := wrap_in (by omega) (by omega)
      simp only [e1, st_eqTs]
      simp [leA, PV.Le_self]
    · have : k = n := by omega
      subst this
      have : allB (fun i => (f i).toList == (g i).toList) k = true := allB_iff.2 hall
      simp [sameT, this]
theorem ev_eqIs : ∀ (nn nn' : Bool) (n : Nat) (f : Nat → Int) (m : Nat) (g : Nat → Int), ev G0 res50 [] 3000 (Or.nil.split Or.nil) [.ir ir50] (start [IL nn n f, IL nn' m g] []) = VC.split ((↑n : Int) != (↑m : Int)) (VC.doneP (AB false)) (VC.loop ir50_L1 [.bend 0, .ir ir50_T2] (St.mk [(0, SL nn 1 n fun i x => PI (f i)), (1, SL nn' 1 m fun i x => PI (g i)), (4, AB false), (10, AB ((↑n : Int) != (↑m : Int))), (12, AI ↑n), (13, AI 0)] [])) := by intros; kernel_rfl
def st_eqIs (nn nn' : Bool) (n : Nat) (f : Nat → Int) (m : Nat) (g : Nat → Int) (k : Nat) : St := ⟨[(0, IL nn n f), (1, IL nn' m g), (12, AI n), (13, AI k)], []⟩
theorem evr_eqIs : ∀ (nn nn' : Bool) (n : Nat) (f : Nat → Int) (m : Nat) (g : Nat → Int) (I : Nat → St → Prop) (k : Nat), ev G0 res50 [] 3000 ((Or.nil.split Or.nil).split Or.nil) [.ir ir50_L1, .lend (I k), .bend 0, .ir ir50_T2] (st_eqIs nn nn' n f m g k) = VC.split (decide ((↑k : Int) < ↑n)) (VC.need (0 ≤ (↑k : Int) ∧ k < n) (VC.need (0 ≤ (↑k : Int) ∧ k < m) (VC.split (f k != g k) (VC.doneP (AB false)) (VC.lend (I k) (St.mk [(0, SL nn 1 n fun i x => PI (f i)), (1, SL nn' 1 m fun i x => PI (g i)), (12, AI ↑n), (13, AI (IntKind.i64.wrap ((↑k : Int) + 1))), (14, AB (decide ((↑k : Int) < ↑n))), (5, AI ↑k), (24, AB (f k != g k))] []))))) (VC.doneP (AB true)) := by intros; kernel_rfl
theorem c_eqIs (nn nn' : Bool) (n : Nat) (f : Nat → Int) (m : Nat) (g : Nat → Int) (hn : n ≤ 1048576) : PRet Tryz.prog G0 50 [IL nn n f, IL nn' m g] (AB (rowL n f 0 == rowL m g 0)) := by
  rw [← sameV_eq]
  refine PRet.by chk50 (ev_eqIs nn nn' n f m g) ?_
  simp only [vcA]
  refine ⟨fun h => ?_, fun h => ?_⟩
  · have : ¬ n = m := by simp at h; omega
    simp [sameV, this]
  have hnm : n = m := by simp at h; omega
  subst hnm
  refine loop_by (st_eqIs nn nn' n f n g) (fun k => k ≤ n ∧ ∀ j, j < k → (f j == g j) = true) (fun k => n - k) 0 [] [] [] (by simp) ?_ (evr_eqIs nn nn' n f n g) fun k hk => ?_
  · simp [st_eqIs, leA, PV.Le_self]
  · obtain ⟨hk, hall⟩ := hk
    simp only [vcA, Int.toNat_natCast]
    refine ⟨fun h1 => ⟨by omega, by omega, fun h2 => ?_, fun h2 => Again.mk (k + 1) [] [] [] ⟨by omega, fun j hj => ?_⟩ (by omega) ?_⟩, fun h1 => ?_⟩
    · have h3 : (f k == g k) = false := by simpa using h2
      simp [sameV, allB_no (p := fun i => f i == g i) (show k < n by omega) h3]
    · by_cases h3 : j = k
      · subst h3; simpa using h2
      · exact hall j (by omega)
    · have e1 : IntKind.i64.wrap ((k : Int) + 1) = ((k + 1 : Nat) : Int) := wrap_in (by omega) (by omega)
      simp only [e1, st_eqIs]
      simp [leA, PV.Le_self]
    · have : k = n := by omega
      subst this
      have : allB (fun i => f i == g i) k = true := allB_iff.2 hall
      simp [sameV, this]
abbrev eqFn : AV := .cl 50 [] []
theorem ev_eqRs : ∀ (nn nn' : Bool) (m : Nat) (w : Nat → Nat) (h : Nat → Nat → Int) (m' : Nat) (w' : Nat → Nat) (h' : Nat → Nat → Int), ev G0 res48 [] 3000 (Or.nil.split Or.nil) [.ir ir48] (start [RL nn m w h, RL nn' m' w' h', eqFn] []) = VC.split ((↑m : Int) != (↑m' : Int)) (VC.doneP (AB false)) (VC.loop ir48_L1 [.bend 0, .ir ir48_T2] (St.mk [(0, RL nn m w h), (1, SL nn' 1 m' (RR w' h')), (2, AV.cl 50 [] []), (6, AB false), (14, AB ((↑m : Int) != (↑m' : Int))), (15, RL nn m w h), (16, AI ↑m), (17, AI 0)] [])) := by intros; kernel_rfl
def st_eqRs (nn nn' : Bool) (m : Nat) (w : Nat → Nat) (h : Nat → Nat → Int) (w' : Nat → Nat) (h' : Nat → Nat → Int) (k : Nat) : St := ⟨[(0, RL nn m w h), (1, RL nn' m w' h'), (2, eqFn), (15, RL nn m w h), (16, AI m), (17, AI k)], []⟩
theorem evr_eqRs : ∀ (nn nn' : Bool) (m : Nat) (w : Nat → Nat) (h : Nat → Nat → Int) (w' : Nat → Nat) (h' : Nat → Nat → Int) (I : Nat → St → Prop) (k : Nat), ev G0 res48 [] 3000 ((Or.call [] (AB (rowL (w k) (h k) 0 == rowL (w' k) (h' k) 0)) [] (Or.nil.split Or.nil)).split Or.nil) [.ir ir48_L1, .lend (I k), .bend 0, .ir ir48_T2] (st_eqRs nn nn' m w h w' h' k) = VC.split (decide ((↑k : Int) < ↑m)) (VC.need (0 ≤ (↑k : Int) ∧ k < m) (VC.need (0 ≤ (↑k : Int) ∧ k < m) (VC.call 50 [SL false 1 (w k) fun j x => PI (h k j), SL false 1 (w' k) fun j x => PI (h' k j)] [] (AB (rowL (w k) (h k) 0 == rowL (w' k) (h' k) 0)) [] (VC.split (!rowL (w k) (h k) 0 == rowL (w' k) (h' k) 0) (VC.doneP (AB false)) (VC.lend (I k) (St.mk [(0, RL nn m w h), (1, SL nn' 1 m (RR w' h')), (2, AV.cl 50 [] []), (15, RL nn m w h), (16, AI ↑m), (17, AI (IntKind.i64.wrap ((↑k : Int) + 1))), (18, AB (decide ((↑k : Int) < ↑m))), (7, AI ↑k), (8, SL false 1 (w k) fun j x => PI (h k j)), (9, SL false 1 (w' k) fun j x => PI (h' k j)), (30, AB !rowL (w k) (h k) 0 == rowL (w' k) (h' k) 0)] [])))))) (VC.doneP (AB true)) := by intros; kernel_rfl
theorem c_eqRs (nn nn' : Bool) (m : Nat) (w : Nat → Nat) (h : Nat → Nat → Int) (m' : Nat) (w' : Nat → Nat) (h' : Nat → Nat → Int) (hm : m ≤ 1048576) (hw : ∀ i, i < m → w i ≤ 1048576) : PRet Tryz.prog G0 48 [RL nn m w h, RL nn' m' w' h', eqFn] (AB (sameR m w h m' w' h')) := by
  refine PRet.by chk48 (ev_eqRs nn nn' m w h m' w' h') ?_
  simp only [vcA]
  refine ⟨fun h => ?_, fun h0 => ?_⟩
  · have : ¬ m = m' := by simp at h; omega
    simp [sameR, this]
  have hnm : m = m' := by simp at h0; omega
  subst hnm
  refine loop_by (st_eqRs nn nn' m w h w' h') (fun k => k ≤ m ∧ ∀ j, j < k → (rowL (w j) (h j) 0 == rowL (w' j) (h' j) 0) = true) (fun k => m - k) 0 [] [] [] (by simp) ?_ (evr_eqRs nn nn' m w h w' h') fun k hk => ?_
  · simp [st_eqRs, leA, PV.Le_self]
  · obtain ⟨hk, hall⟩ := hk
    simp only [vcA, Int.toNat_natCast]
    refine ⟨fun h1 => ⟨by omega, by omega, c_eqIs _ _ _ _ _ _ (hw k (by omega)), fun h2 => ?_, fun h2 => Again.mk (k + 1) [] [] [] ⟨by omega, fun j hj => ?_⟩ (by omega) ?_⟩, fun h1 => ?_⟩
    · have h3 : (rowL (w k) (h k) 0 == rowL (w' k) (h' k) 0) = false := by simpa using h2
      simp [sameR, allB_no (p := fun i => rowL (w i) (h i) 0 == rowL (w' i) (h' i) 0) (show k < m by omega) h3]
    · by_cases h3 : j = k
      · subst h3; simpa using h2
      · exact hall j (by omega)
    · have e1 : IntKind.i64.wrap ((k : Int) + 1) = ((k + 1 : Nat) : Int) := wrap_in (by omega) (by omega)
      simp only [e1, st_eqRs]
      simp [leA, PV.Le_self]
    · have : k = m := by omega
      subst this
      have : allB (fun i => rowL (w i) (h i) 0 == rowL (w' i) (h' i) 0) k = true := allB_iff.2 hall
      simp [sameR, this]
/-! ### SameBag -/
def bagB (n : Nat) (f : Nat → ByteArray) (m : Nat) (w : Nat → Nat) (h : Nat → Nat → Int) (n' : Nat) (f' : Nat → ByteArray) (m' : Nat) (w' : Nat → Nat) (h' : Nat → Nat → Int) : Bool :=
  tableB n f m w h && tableB n' f' m' w' h' && sameT n f n' f' && sameR (srM n f m w h) (wL (srtA m w h)) (hL (srtA m w h)) (srM n' f' m' w' h') (wL (srtA m' w' h')) (hL (srtA m' w' h'))
theorem ev_imSB : ∀ (n : Nat) (f : Nat → ByteArray) (m : Nat) (w : Nat → Nat) (h : Nat → Nat → Int) (n' : Nat) (f' : Nat → ByteArray) (m' : Nat) (w' : Nat → Nat) (h' : Nat → Nat → Int), ev G0 res14 [] 3000 (Or.call [] (AB (tableB n f m w h)) [] (Or.nil.lit.lit.lit.lit.lit.lit.lit.lit.lit.lit.lit.split (Or.call [] (AB (tableB n' f' m' w' h')) [] (Or.nil.lit.lit.lit.lit.lit.lit.lit.split (Or.call [] (AB (sameT n f n' f')) [] (Or.nil.split (Or.call [] taR (srH n f m w h) (Or.call [] taR (srH n' f' m' w' h') (Or.call [] (AB (sameR (srM n f m w h) (wL (srtA m w h)) (hL (srtA m w h)) (srM n' f' m' w' h') (wL (srtA m' w' h')) (hL (srtA m' w' h')))) [] Or.nil)))).lit.lit).lit.lit.lit.lit).lit.lit).lit)) [.ir ir14] (start [TA false false n f m w h, TA false false n' f' m' w' h'] []) = VC.call 41 [AV.ag [TL false n f, RL false m w h]] [] (AB (tableB n f m w h)) [] (VC.split (!tableB n f m w h) (VC.doneP (AB false)) (VC.call 41 [AV.ag [SL false 1 n' fun i x => PT (f' i), SL false 1 m' (RR w' h')]] [] (AB (tableB n' f' m' w' h')) [] (VC.split (!tableB n' f' m' w' h') (VC.doneP (AB false)) (VC.call 47 [TL false n f, SL false 1 n' fun i x => PT (f' i)] [] (AB (sameT n f n' f')) [] (VC.split (!sameT n f n' f') (VC.doneP (AB false)) (VC.call 49 [AV.ag [TL false n f, RL false m w h]] [] taR (srH n f m w h) (VC.call 49 [AV.ag [SL false 1 n' fun i x => PT (f' i), SL false 1 m' (RR w' h')]] [] taR (srH n' f' m' w' h') (VC.call 48 [SL false 1 (srM n f m w h) (RR (wL (srtA m w h)) (hL (srtA m w h))), SL false 1 (srM n' f' m' w' h') (RR (wL (srtA m' w' h')) (hL (srtA m' w' h'))), AV.cl 50 [] []] [] (AB (sameR (srM n f m w h) (wL (srtA m w h)) (hL (srtA m w h)) (srM n' f' m' w' h') (wL (srtA m' w' h')) (hL (srtA m' w' h')))) [] (VC.doneP (AB (sameR (srM n f m w h) (wL (srtA m w h)) (hL (srtA m w h)) (srM n' f' m' w' h') (wL (srtA m' w' h')) (hL (srtA m' w' h'))))))))))))) := by intros; kernel_rfl
theorem sr_of_ok {n : Nat} {f : Nat → ByteArray} {m : Nat} {w : Nat → Nat} (h : Nat → Nat → Int) (ok : TaOk n f m w) : srM n f m w h ≤ 1048576 ∧ ∀ i, i < srM n f m w h → wL (srtA m w h) i ≤ 1048576 := by
  refine ⟨?_, fun i hi => ?_⟩
  · unfold srM; split
    · exact ok.hm
    · omega
  · have hi' : i < m := by unfold srM at hi; split at hi <;> omega
    have h1 : i < (srtA m w h).length := by rw [srt_len]; exact hi'
    have h2 : (srtA m w h)[i] ∈ tabL m w h := (srt_perm _).mem_iff.1 (List.getElem_mem h1)
    simp only [tabL, List.mem_map, List.mem_range] at h2
    obtain ⟨k, hk, he⟩ := h2
    have : wL (srtA m w h) i = w k := by
      simp only [wL, List.getD_eq_getElem?_getD, List.getElem?_eq_getElem h1, Option.getD_some, ← he, rowL_len]
    rw [this]; exact ok.hw k hk
theorem c_imSB (n : Nat) (f : Nat → ByteArray) (m : Nat) (w : Nat → Nat) (h : Nat → Nat → Int) (n' : Nat) (f' : Nat → ByteArray) (m' : Nat) (w' : Nat → Nat) (h' : Nat → Nat → Int) (ok : TaOk n f m w) (ok' : TaOk n' f' m' w') :
    PRet Tryz.prog G0 14 [TA false false n f m w h, TA false false n' f' m' w' h'] (AB (bagB n f m w h n' f' m' w' h')) := by
  refine PRet.by chk14 (ev_imSB n f m w h n' f' m' w' h') ?_
  simp only [vcA]
  have s1 := sr_of_ok h ok
  refine ⟨c_imTV _ _ _ _ _ _ _ ok.hn ok.hf ok.hm ok.hw, fun h1 => ?_, fun h1 => ⟨c_imTV _ _ _ _ _ _ _ ok'.hn ok'.hf ok'.hm ok'.hw, fun h2 => ?_, fun h2 => ⟨c_eqTs _ _ _ _ _ _ ok.hn, fun h3 => ?_, fun h3 => ⟨c_imSR _ _ _ _ _ ok, c_imSR _ _ _ _ _ ok', c_eqRs _ _ _ _ _ _ _ _ s1.1 s1.2, ?_⟩⟩⟩⟩
  · have e : tableB n f m w h = false := by simpa using h1
    simp [bagB, e]
  · have e : tableB n' f' m' w' h' = false := by simpa using h2
    simp [bagB, e]
  · have e : sameT n f n' f' = false := by simpa using h3
    simp [bagB, e]
  · have e1 : tableB n f m w h = true := by simpa using h1
    have e2 : tableB n' f' m' w' h' = true := by simpa using h2
    have e3 : sameT n f n' f' = true := by simpa using h3
    simp [bagB, e1, e2, e3]
end Go.Gw
