/- Sorting rows: comparisons, and the sort itself; with no condition. -/
import Derived.Test.YtigaelckdbeecaaDoorTable
import Derived.Test.YtigaelckdbeecaaDoorGw32
import Derived.Shelf.SlSortCmp.NoneTotal
import Derived.KernelRfl
namespace Go.Proofs
open Go.Shelf
def Tryd.laySort_ren : Go.Shelf.Ren := ⟨fun | 6 => 39 | 15 => 64 | 14 => 63 | 28 => 82 | 29 => 83 | 20 => 74 | 21 => 75 | 22 => 76 | 23 => 77 | 24 => 78 | 25 => 79 | 26 => 80 | 27 => 81 | 46 => 87 | 47 => 88 | 48 => 89 | 49 => 90 | 50 => 91 | 57 => 93 | n => n, fun | 22 => 24 | 24 => 52 | 25 => 72 | 3 => 3 | 39 => 94 | 0 => 0 | 53 => 108 | 55 => 110 | 4 => 4 | 46 => 101 | 45 => 100 | 50 => 105 | 5 => 5 | 9 => 9 | 66 => 113 | 70 => 117 | 76 => 119 | 77 => 120 | n => n, fun | n => n⟩
theorem Tryd.laySort : Go.Proofs.SlLaysF.n6 Tryd.prog Tryd.laySort_ren := {
  mixed := by kernel_rfl
  f6 := ⟨Tryd.f39.name, by decide, Tryd.func39.trans (congrArg some (by kernel_rfl))⟩
  f14 := ⟨Tryd.f63.name, by decide, Tryd.func63.trans (congrArg some (by kernel_rfl))⟩
  f15 := Tryd.func64.trans (congrArg some (by kernel_rfl))
  f20 := ⟨Tryd.f74.name, by decide, Tryd.func74.trans (congrArg some (by kernel_rfl))⟩
  f21 := ⟨Tryd.f75.name, by decide, Tryd.func75.trans (congrArg some (by kernel_rfl))⟩
  f22 := ⟨Tryd.f76.name, by decide, Tryd.func76.trans (congrArg some (by kernel_rfl))⟩
  f23 := ⟨Tryd.f77.name, by decide, Tryd.func77.trans (congrArg some (by kernel_rfl))⟩
  f24 := ⟨Tryd.f78.name, by decide, Tryd.func78.trans (congrArg some (by kernel_rfl))⟩
  f25 := ⟨Tryd.f79.name, by decide, Tryd.func79.trans (congrArg some (by kernel_rfl))⟩
  f26 := ⟨Tryd.f80.name, by decide, Tryd.func80.trans (congrArg some (by kernel_rfl))⟩
  f27 := ⟨Tryd.f81.name, by decide, Tryd.func81.trans (congrArg some (by kernel_rfl))⟩
  f28 := Tryd.func82.trans (congrArg some (by kernel_rfl))
  f29 := Tryd.func83.trans (congrArg some (by kernel_rfl))
  f46 := ⟨Tryd.f87.name, by decide, Tryd.func87.trans (congrArg some (by kernel_rfl))⟩
  f47 := Tryd.func88.trans (congrArg some (by kernel_rfl))
  f48 := Tryd.func89.trans (congrArg some (by kernel_rfl))
  f49 := ⟨Tryd.f90.name, by decide, Tryd.func90.trans (congrArg some (by kernel_rfl))⟩
  f50 := ⟨Tryd.f91.name, by decide, Tryd.func91.trans (congrArg some (by kernel_rfl))⟩
  f57 := ⟨Tryd.f93.name, by decide, Tryd.func93.trans (congrArg some (by kernel_rfl))⟩
  t0 := Tryd.underlying0
  a0 := Tryd.isAgg0
  z0 := Tryd.sizeOf0
  v0 := Tryd.zeroValue0
  t3 := Tryd.underlying3
  a3 := Tryd.isAgg3
  z3 := Tryd.sizeOf3
  v3 := Tryd.zeroValue3
  t4 := Tryd.underlying4
  a4 := Tryd.isAgg4
  z4 := Tryd.sizeOf4
  v4 := Tryd.zeroValue4
  t5 := Tryd.underlying5
  a5 := Tryd.isAgg5
  z5 := Tryd.sizeOf5
  v5 := Tryd.zeroValue5
  t9 := Tryd.underlying9
  a9 := Tryd.isAgg9
  z9 := Tryd.sizeOf9
  v9 := Tryd.zeroValue9
  t22 := Tryd.underlying24
  a22 := Tryd.isAgg24
  z22 := Tryd.sizeOf24
  v22 := Tryd.zeroValue24
  a24 := Tryd.isAgg52
  z24 := Tryd.sizeOf52
  t25 := Tryd.underlying72
  a25 := Tryd.isAgg72
  z25 := Tryd.sizeOf72
  v25 := Tryd.zeroValue72
  t39 := Tryd.underlying94
  a39 := Tryd.isAgg94
  z39 := Tryd.sizeOf94
  v39 := Tryd.zeroValue94
  t45 := Tryd.underlying100
  a45 := Tryd.isAgg100
  z45 := Tryd.sizeOf100
  v45 := Tryd.zeroValue100
  t46 := Tryd.underlying101
  a46 := Tryd.isAgg101
  z46 := Tryd.sizeOf101
  v46 := Tryd.zeroValue101
  t50 := Tryd.underlying105
  a50 := Tryd.isAgg105
  z50 := Tryd.sizeOf105
  v50 := Tryd.zeroValue105
  t53 := Tryd.underlying108
  a53 := Tryd.isAgg108
  z53 := Tryd.sizeOf108
  v53 := Tryd.zeroValue108
  t55 := Tryd.underlying110
  a55 := Tryd.isAgg110
  z55 := Tryd.sizeOf110
  v55 := Tryd.zeroValue110
  t66 := Tryd.underlying113
  a66 := Tryd.isAgg113
  z66 := Tryd.sizeOf113
  v66 := Tryd.zeroValue113
  t70 := Tryd.underlying117
  a70 := Tryd.isAgg117
  z70 := Tryd.sizeOf117
  v70 := Tryd.zeroValue117
  t76 := Tryd.underlying119
  a76 := Tryd.isAgg119
  z76 := Tryd.sizeOf119
  v76 := Tryd.zeroValue119
  t77 := Tryd.underlying120
  a77 := Tryd.isAgg120
  z77 := Tryd.sizeOf120
  v77 := Tryd.zeroValue120 }
end Go.Proofs
namespace Go.Gw
open Go Go.Proofs
set_option linter.unusedSimpArgs false
set_option linter.unusedVariables false
set_option maxRecDepth 100000
def ir84 : Ir :=
  (.seq
  (.reg [] [o 2 (.mov (cb false))])
  (.seq
  (.reg [3, 4, 5] [o 3 (.mov (tt 0)),
    o 4 (.mov (tt 0)),
    o 5 (.bin .neq (tt 3) (tt 4)),
    o 2 (.mov (tt 5))])
  .ret))
def keep84 : List Nat := [0, 2]
def res84 : List RI := [.tmp 2]
theorem chk84 : chk Tryd.prog 84 1 keep84 = some (ir84, res84) := by kernel_rfl
def ir65 : Ir :=
  (.seq
  (.reg [] [o 4 (.mov (ci 0))])
  (.seq
  (.reg [7, 8] [o 7 (.mov (tt 0)),
    o 8 (.call 84 [(tt 7)]),
    o 5 (.mov (tt 8))])
  (.seq
  (.reg [9, 10] [o 9 (.mov (tt 1)),
    o 10 (.call 84 [(tt 9)]),
    o 6 (.mov (tt 10))])
  (.seq
  (.seq
  (.reg [] [o 11 (.mov (tt 5))])
  (.cond (tt 11)
   (.seq
   (.seq
   (.reg [] [o 12 (.mov (tt 6))])
   (.cond (tt 12)
    (.seq
    (.reg [] [o 4 (.mov (ci 0))])
    .ret)
    .skip))
   (.seq
   (.reg [] [o 4 (.mov (ci (-1)))])
   .ret))
   .skip))
  (.seq
  (.seq
  (.reg [] [o 13 (.mov (tt 6))])
  (.cond (tt 13)
   (.seq
   (.reg [] [o 4 (.mov (ci 1))])
   .ret)
   .skip))
  (.seq
  (.seq
  (.reg [14, 15] [o 14 (.mov (tt 0)),
    o 15 (.mov (tt 1)),
    o 16 (.bin .lss (tt 14) (tt 15))])
  (.cond (tt 16)
   (.seq
   (.reg [] [o 4 (.mov (ci (-1)))])
   .ret)
   .skip))
  (.seq
  (.seq
  (.reg [17, 18] [o 17 (.mov (tt 0)),
    o 18 (.mov (tt 1)),
    o 19 (.bin .gtr (tt 17) (tt 18))])
  (.cond (tt 19)
   (.seq
   (.reg [] [o 4 (.mov (ci 1))])
   .ret)
   .skip))
  (.seq
  (.reg [] [o 4 (.mov (ci 0))])
  .ret))))))))
def keep65 : List Nat := [0, 1, 4, 5, 6, 11, 12, 13, 16, 19]
def res65 : List RI := [.tmp 4]
theorem chk65 : chk Tryd.prog 65 2 keep65 = some (ir65, res65) := by kernel_rfl
def ir40_L1 : Ir :=
  (.seq
  (.reg [] [o 12 (.bin .lss (tt 11) (tt 10))])
  (.seq
  (.cond (tt 12)
   .skip
   (.exit 0))
  (.seq
  (.block 1
   (.seq
   (.reg [13, 14, 15] [o 13 (.mov (tt 11)),
     o 14 (.idx 1 (tt 9) (tt 11)),
     o 15 (.load false 1 (tt 14)),
     o 5 (.mov (tt 13)),
     o 6 (.mov (tt 15))])
   (.seq
   (.seq
   (.reg [16, 17, 18] [o 16 (.mov (tt 5)),
     o 17 (.mov (tt 1)),
     o 18 (.len (tt 17)),
     o 19 (.bin .geq (tt 16) (tt 18))])
   (.cond (tt 19)
    (.seq
    (.reg [] [o 4 (.mov (ci 1))])
    .ret)
    .skip))
   (.seq
   (.reg [20, 21, 22, 23] [o 20 (.mov (tt 1)),
     o 21 (.mov (tt 5)),
     o 22 (.idx 1 (tt 20) (tt 21)),
     o 23 (.load false 1 (tt 22)),
     o 7 (.mov (tt 23))])
   (.seq
   (.reg [24, 25, 26] [o 24 (.mov (tt 6)),
     o 25 (.mov (tt 7)),
     o 26 (.call 65 [(tt 24), (tt 25)]),
     o 8 (.mov (tt 26))])
   (.seq
   (.reg [27] [o 27 (.mov (tt 8)),
     o 28 (.bin .neq (tt 27) (ci 0))])
   (.cond (tt 28)
    (.seq
    (.reg [29] [o 29 (.mov (tt 8)),
      o 4 (.mov (tt 29))])
    .ret)
    .skip)))))))
  (.reg [30] [o 30 (.bin .add (tt 11) (ci 1)),
    o 11 (.mov (tt 30))]))))
def ir40_T2 : Ir :=
  (.seq
  (.seq
  (.reg [31, 32, 33, 34] [o 31 (.mov (tt 0)),
    o 32 (.len (tt 31)),
    o 33 (.mov (tt 1)),
    o 34 (.len (tt 33)),
    o 35 (.bin .lss (tt 32) (tt 34))])
  (.cond (tt 35)
   (.seq
   (.reg [] [o 4 (.mov (ci (-1)))])
   .ret)
   .skip))
  (.seq
  (.reg [] [o 4 (.mov (ci 0))])
  .ret))
def ir40 : Ir :=
  (.seq
  (.reg [] [o 4 (.mov (ci 0))])
  (.seq
  (.seq
  (.reg [] [o 9 (.mov (tt 0)),
    o 10 (.len (tt 9)),
    o 11 (.mov (ci 0))])
  (.block 0
   (.loop ir40_L1)))
  ir40_T2))
def keep40 : List Nat := [0, 1, 4, 5, 6, 7, 8, 9, 10, 11, 12, 19, 28, 35]
def res40 : List RI := [.tmp 4]
theorem chk40 : chk Tryd.prog 40 2 keep40 = some (ir40, res40) := by kernel_rfl
def ir73_L1 : Ir :=
  (.seq
  (.seq
  (.reg [6, 7, 8, 9, 10, 11, 12, 13, 14] [o 6 (.mov (tt 5)),
    o 7 (.mov (tt 0)),
    o 8 (.len (tt 7)),
    o 9 (.bin .lss (tt 6) (tt 8)),
    o 10 (.mov (tt 9)),
    og 11 10 true (.mov (tt 5)),
    og 12 10 true (.mov (tt 1)),
    og 13 10 true (.len (tt 12)),
    og 14 10 true (.bin .lss (tt 11) (tt 13)),
    o 15 (.pick (tt 10) (tt 14) (cb false))])
  (.cond (tt 15)
   .skip
   (.exit 0)))
  (.seq
  (.block 1
   (.seq
   (.dreg [18, 19, 20, 21, 22, 23, 24, 25] [0, 0, 3, 7, 0, 0, 48, 112, 255] [(3, 1021), (7, 1025)] [o 18 (.mov (tt 0)),
     o 19 (.mov (tt 5)),
     o 20 (.idx 1 (tt 18) (tt 19)),
     o 21 (.load false 1 (tt 20)),
     o 22 (.mov (tt 1)),
     o 23 (.mov (tt 5)),
     o 24 (.idx 1 (tt 22) (tt 23)),
     o 25 (.load false 1 (tt 24)),
     o 26 (.bin .neq (tt 21) (tt 25))])
   (.cond (tt 26)
    (.seq
    (.dreg [27, 28, 29, 30, 31, 32, 33, 34, 35] [0, 0, 3, 7, 0, 0, 48, 112, 255, 511] [(3, 1030), (7, 1034)] [o 27 (.mov (tt 0)),
      o 28 (.mov (tt 5)),
      o 29 (.idx 1 (tt 27) (tt 28)),
      o 30 (.load false 1 (tt 29)),
      o 31 (.mov (tt 1)),
      o 32 (.mov (tt 5)),
      o 33 (.idx 1 (tt 31) (tt 32)),
      o 34 (.load false 1 (tt 33)),
      o 35 (.bin .lss (tt 30) (tt 34)),
      o 4 (.mov (tt 35))])
    .ret)
    .skip)))
  (.reg [16, 17] [o 16 (.mov (tt 5)),
    o 17 (.bin .add (tt 16) (ci 1)),
    o 5 (.mov (tt 17))])))
def ir73_T2 : Ir :=
  (.seq
  (.reg [36, 37, 38, 39, 40] [o 36 (.mov (tt 0)),
    o 37 (.len (tt 36)),
    o 38 (.mov (tt 1)),
    o 39 (.len (tt 38)),
    o 40 (.bin .lss (tt 37) (tt 39)),
    o 4 (.mov (tt 40))])
  .ret)
def ir73 : Ir :=
  (.seq
  (.reg [] [o 4 (.mov (cb false))])
  (.seq
  (.seq
  (.reg [] [o 5 (.mov (ci 0))])
  (.block 0
   (.loop ir73_L1)))
  ir73_T2))
def keep73 : List Nat := [0, 1, 4, 5, 15, 26]
def res73 : List RI := [.tmp 4]
theorem chk73 : chk Tryd.prog 73 2 keep73 = some (ir73, res73) := by kernel_rfl

/-! ### lists of numbers, in order -/
def cmp3 (x y : Int) : Int := if x < y then -1 else if y < x then 1 else 0
def lexL : List Int → List Int → Int
  | [], [] => 0
  | [], _ :: _ => -1
  | _ :: _, [] => 1
  | x :: xs, y :: ys => if x < y then -1 else if y < x then 1 else lexL xs ys
theorem lex_refl : ∀ x, lexL x x = 0
  | [] => rfl
  | x :: xs => by simp [lexL, lex_refl xs]
theorem lex_swap : ∀ x y, lexL y x = - lexL x y
  | [], [] => rfl
  | [], _ :: _ => rfl
  | _ :: _, [] => rfl
  | x :: xs, y :: ys => by
    simp only [lexL]
    by_cases h1 : x < y
    · simp [h1, show ¬ y < x by omega]
    · by_cases h2 : y < x
      · simp [h1, h2]
      · simp [h1, h2, lex_swap xs ys]
theorem lex_zero : ∀ x y, lexL x y = 0 → x = y
  | [], [], _ => rfl
  | [], _ :: _, h => by simp [lexL] at h
  | _ :: _, [], h => by simp [lexL] at h
  | x :: xs, y :: ys, h => by
    simp only [lexL] at h
    split at h
    · omega
    · split at h
      · omega
      · rw [lex_zero xs ys h, show x = y by omega]
theorem lex_le : ∀ x y z, lexL x y ≤ 0 → lexL y z ≤ 0 → lexL x z ≤ 0
  | [], _, [], _, _ => by simp [lexL]
  | [], _, _ :: _, _, _ => by simp [lexL]
  | _ :: _, [], _, h, _ => by simp [lexL] at h
  | _ :: _, _ :: _, [], _, h => by simp [lexL] at h
  | x :: xs, y :: ys, z :: zs, h1, h2 => by
    have ih := lex_le xs ys zs
    simp only [lexL] at h1 h2 ⊢
    split at h1
    · split at h2
      · simp [show x < z by omega]
      · split at h2
        · omega
        · simp [show x < z by omega]
    · split at h1
      · omega
      · split at h2
        · simp [show x < z by omega]
        · split at h2
          · omega
          · have := ih h1 h2
            simp [show ¬ x < z by omega, show ¬ z < x by omega, this]
def ltL (x y : List Int) : Bool := decide (lexL x y < 0)
theorem lt_swo : Go.Sort.SWO ltL where
  irrefl x := by simp [ltL, lex_refl]
  trans x y z h1 h2 := by
    simp only [ltL, decide_eq_true_eq] at *
    have h3 := lex_le x y z (by omega) (by omega)
    by_cases h4 : lexL x z = 0
    · have := lex_zero _ _ h4
      subst this
      have := lex_swap x y
      omega
    · omega
  ntrans x y z h1 h2 := by
    simp only [ltL, decide_eq_false_iff_not, Int.not_lt] at *
    have h3 := lex_le z y x (by rw [lex_swap y z]; omega) (by rw [lex_swap x y]; omega)
    rw [lex_swap x z] at h3
    omega
theorem lt_anti (x y : List Int) (h1 : ltL x y = false) (h2 : ltL y x = false) : x = y := by
  simp only [ltL, decide_eq_false_iff_not, Int.not_lt] at *
  have := lex_swap x y
  exact lex_zero _ _ (by omega)
def rowL (n : Nat) (f : Nat → Int) (k : Nat) : List Int := (List.range' k (n - k)).map f
theorem rowL_step {n : Nat} {f : Nat → Int} {k : Nat} (h : k < n) : rowL n f k = f k :: rowL n f (k + 1) := by
  unfold rowL
  obtain ⟨d, hd⟩ : ∃ d, n - k = d + 1 := ⟨n - k - 1, by omega⟩
  rw [hd, List.range'_succ, show n - (k + 1) = d by omega]
  rfl
theorem rowL_nil {n : Nat} {f : Nat → Int} {k : Nat} (h : n ≤ k) : rowL n f k = [] := by
  unfold rowL
  rw [show n - k = 0 by omega]
  rfl
theorem rowL_len {n : Nat} {f : Nat → Int} : (rowL n f 0).length = n := by simp [rowL]
theorem rowL_get {n : Nat} {f : Nat → Int} {j : Nat} (h : j < n) : (rowL n f 0).getD j 0 = f j := by
  simp [rowL, List.getD_eq_getElem?_getD, List.getElem?_range', h]
theorem rowL_congr {n : Nat} {f g : Nat → Int} (h : ∀ j, j < n → f j = g j) : rowL n f 0 = rowL n g 0 := by
  unfold rowL
  apply List.map_congr_left
  intro j hj
  simp only [List.mem_range'_1] at hj
  exact h j (by omega)
/-- The rows of a table, as lists. -/
def tabL (m : Nat) (w : Nat → Nat) (h : Nat → Nat → Int) : List (List Int) := (List.range m).map fun i => rowL (w i) (h i) 0
def wL (S : List (List Int)) (i : Nat) : Nat := (S.getD i []).length
def hL (S : List (List Int)) (i j : Nat) : Int := (S.getD i []).getD j 0
theorem tabL_len {m : Nat} {w : Nat → Nat} {h : Nat → Nat → Int} : (tabL m w h).length = m := by simp [tabL]
theorem tabL_get {m : Nat} {w : Nat → Nat} {h : Nat → Nat → Int} {i : Nat} (hi : i < m) : (tabL m w h).getD i [] = rowL (w i) (h i) 0 := by
  simp [tabL, List.getD_eq_getElem?_getD, hi]
def srtL (lt : List Int → List Int → Bool) (S : List (List Int)) : List (List Int) := S.mergeSort fun x y => !lt y x
theorem srt_eq {lt : List Int → List Int → Bool} (hO : Go.Sort.SWO lt) (ha : ∀ x y, lt x y = false → lt y x = false → x = y) {S S' : List (List Int)} (hp : S'.Perm S) (hs : S'.Pairwise fun x y => lt y x = false) : S' = srtL lt S := by
  have hlen := hp.length_eq
  have := Go.Sort.sorted_unique_holds (lt := lt) hO ha S.toArray S'.toArray ⟨by simpa using hlen, fun i hi => ?_, ?_⟩ (fun i j _ hij hj => ?_)
  · show S' = S.mergeSort _
    simpa using this
  · have h1 : S.toArray.size ≤ i := by rcases hi with h | h <;> omega
    have h2 : S'.toArray.size ≤ i := by simpa [hlen] using h1
    rw [getElem!_neg _ _ (by omega), getElem!_neg _ _ (by omega)]
  · rw [extract_all (d := S'.toArray) (by simp [hlen]), extract_all (d := S.toArray) (by simp)]
    simpa using hp
  · have hj' : j < S'.length := by simpa [hlen] using hj
    rw [getElem!_pos S'.toArray j (by simpa using hj'), getElem!_pos S'.toArray i (by simp; omega)]
    simpa using List.pairwise_iff_getElem.1 hs i j (by omega) hj' hij
theorem srt_of {lt : List Int → List Int → Bool} (hO : Go.Sort.SWO lt) (ha : ∀ x y, lt x y = false → lt y x = false → x = y) {m : Nat} {w : Nat → Nat} {h : Nat → Nat → Int} {π : Nat → Nat} (hs : Srt lt m (fun i => rowL (w i) (h i) 0) π) :
    (List.range m).map (fun i => rowL (w (π i)) (h (π i)) 0) = srtL lt (tabL m w h) := by
  refine srt_eq hO ha ?_ ?_
  · have := (hs.perm).map (fun i => rowL (w i) (h i) 0)
    simpa [List.map_map, Function.comp_def, tabL] using this
  · rw [List.pairwise_iff_getElem]
    intro i j hi hj hij
    simpa using hs.srt i j hij (by simpa using hj)
theorem RR_le2 {w w' : Nat → Nat} {h h' : Nat → Nat → Int} {i i' : Nat} (hw : w i = w' i') (hh : ∀ j, j < w i → h i j = h' i' j) : PV.Le (RR w h i 0) (RR w' h' i' 0) :=
  .sl _ _ (fun e => e) _ _ _ _ _ hw fun j k hj _ => by rw [hh j hj]; exact .refl _
theorem srt_le {lt : List Int → List Int → Bool} (hO : Go.Sort.SWO lt) (ha : ∀ x y, lt x y = false → lt y x = false → x = y) {m : Nat} {w : Nat → Nat} {h : Nat → Nat → Int} {π : Nat → Nat} (hs : Srt lt m (fun i => rowL (w i) (h i) 0) π) {i : Nat} (hi : i < m) :
    PV.Le (RR w h (π i) 0) (RR (wL (srtL lt (tabL m w h))) (hL (srtL lt (tabL m w h))) i 0) := by
  have e : (srtL lt (tabL m w h)).getD i [] = rowL (w (π i)) (h (π i)) 0 := by
    rw [← srt_of hO ha hs]
    simp [List.getD_eq_getElem?_getD, hi]
  exact RR_le2 (by simp only [wL, e, rowL_len]) fun j hj => by simp only [hL, e, rowL_get hj]
/-! ### comparisons -/
theorem ev_nan : ∀ (x : Int), ev G0 res84 [] (3000 : Nat) Or.nil [Item.ir ir84] (start [AI x] []) = VC.doneP (AV.p true (PV.v (Value.bool (x != x)))) := by intros; kernel_rfl
theorem c_nan (x : Int) : PRet Tryd.prog G0 84 [AI x] (AB false) := by
  refine PRet.by chk84 (ev_nan x) ?_
  simp only [VC.holds_split, VC.holds_need, VC.holds_doneP, VC.holds_done, VC.holds_either, VC.holds_call, VC.holds_callE, VC.holds_lend, VC.holds_stop, VC.holds_fail, decide_eq_true_eq, decide_eq_false_iff_not]
  simp
theorem ev_cmp3 : ∀ (x y : Int), ev G0 res65 [] (3000 : Nat) (Or.call [] (AB false) [] (Or.call [] (AB false) [] (Or.nil.split (Or.nil.split Or.nil)).lit.lit)) [Item.ir ir65] (start [AI x, AI y] []) = VC.call (84 : Nat) [AV.p true (PV.v (Value.int IntKind.i64 x))] [] (AB false) [] (VC.call (84 : Nat) [AV.p true (PV.v (Value.int IntKind.i64 y))] [] (AB false) [] (VC.split (decide (x < y)) (VC.doneP (AV.p true (PV.v (Value.int IntKind.i64 (-1 : Int))))) (VC.split (decide (y < x)) (VC.doneP (AV.p true (PV.v (Value.int IntKind.i64 (1 : Int))))) (VC.doneP (AV.p true (PV.v (Value.int IntKind.i64 (0 : Int)))))))) := by intros; kernel_rfl
theorem c_cmp3 (x y : Int) : PRet Tryd.prog G0 65 [AI x, AI y] (AI (cmp3 x y)) := by
  refine PRet.by chk65 (ev_cmp3 x y) ?_
  simp only [VC.holds_split, VC.holds_need, VC.holds_doneP, VC.holds_done, VC.holds_either, VC.holds_call, VC.holds_callE, VC.holds_lend, VC.holds_stop, VC.holds_fail, decide_eq_true_eq, decide_eq_false_iff_not]
  refine ⟨c_nan _, c_nan _, fun h => ?_, fun h => ⟨fun h2 => ?_, fun h2 => ?_⟩⟩
  · simp [cmp3, h]
  · have : ¬ x < y := by omega
    simp [cmp3, this]; omega
  · have : ¬ y < x := by omega
    simp [cmp3, h, this]
theorem ev_cmpI : ∀ (nn nn' : Bool) (n : Nat) (f : Nat → Int) (m : Nat) (g : Nat → Int), ev G0 res40 [] (3000 : Nat) Or.nil [Item.ir ir40] (start [IL nn n f, IL nn' m g] []) = VC.loop ir40_L1 [Item.bend (0 : Nat), Item.ir ir40_T2] (St.mk [((0 : Nat), AV.p false (PV.sl nn (1 : Nat) n fun (i x : Nat) => PI (f i))), ((1 : Nat), AV.p false (PV.sl nn' (1 : Nat) m fun (i x : Nat) => PI (g i))), ((4 : Nat), AV.p true (PV.v (Value.int IntKind.i64 (0 : Int)))), ((9 : Nat), AV.p false (PV.sl nn (1 : Nat) n fun (i x : Nat) => PI (f i))), ((10 : Nat), AV.p true (PV.v (Value.int IntKind.i64 (↑n : Int)))), ((11 : Nat), AV.p true (PV.v (Value.int IntKind.i64 (0 : Int))))] []) := by intros; kernel_rfl
def st_cmpI (nn nn' : Bool) (n : Nat) (f : Nat → Int) (m : Nat) (g : Nat → Int) (k : Nat) : St := ⟨[(0, IL nn n f), (1, IL nn' m g), (9, IL nn n f), (10, AI n), (11, AI k)], []⟩
theorem evr_cmpI : ∀ (nn nn' : Bool) (n : Nat) (f : Nat → Int) (m : Nat) (g : Nat → Int) (I : Nat → St → Prop) (k : Nat), ev G0 res40 [] (3000 : Nat) ((Or.nil.split (Or.call [] (AI (cmp3 (f (↑k : Int).toNat) (g (↑k : Int).toNat))) [] (Or.nil.split Or.nil))).split (Or.nil.split Or.nil)) [Item.ir ir40_L1, Item.lend (I k), Item.bend (0 : Nat), Item.ir ir40_T2] (st_cmpI nn nn' n f m g k) = VC.split (decide ((↑k : Int) < (↑n : Int))) (VC.need ((0 : Int) ≤ (↑k : Int) ∧ (↑k : Int).toNat < n) (VC.split (decide ((↑m : Int) ≤ (↑k : Int))) (VC.doneP (AV.p true (PV.v (Value.int IntKind.i64 (1 : Int))))) (VC.need ((0 : Int) ≤ (↑k : Int) ∧ (↑k : Int).toNat < m) (VC.call (65 : Nat) [AV.p true (PV.v (Value.int IntKind.i64 (f (↑k : Int).toNat))), AV.p true (PV.v (Value.int IntKind.i64 (g (↑k : Int).toNat)))] [] (AI (cmp3 (f (↑k : Int).toNat) (g (↑k : Int).toNat))) [] (VC.split (cmp3 (f (↑k : Int).toNat) (g (↑k : Int).toNat) != (0 : Int)) (VC.doneP (AV.p true (PV.v (Value.int IntKind.i64 (cmp3 (f (↑k : Int).toNat) (g (↑k : Int).toNat)))))) (VC.lend (I k) (St.mk [((0 : Nat), AV.p false (PV.sl nn (1 : Nat) n fun (i x : Nat) => PI (f i))), ((1 : Nat), AV.p false (PV.sl nn' (1 : Nat) m fun (i x : Nat) => PI (g i))), ((9 : Nat), AV.p false (PV.sl nn (1 : Nat) n fun (i x : Nat) => PI (f i))), ((10 : Nat), AV.p true (PV.v (Value.int IntKind.i64 (↑n : Int)))), ((11 : Nat), AV.p true (PV.v (Value.int IntKind.i64 (IntKind.i64.wrap ((↑k : Int) + (1 : Int)))))), ((12 : Nat), AV.p true (PV.v (Value.bool (decide ((↑k : Int) < (↑n : Int)))))), ((5 : Nat), AV.p true (PV.v (Value.int IntKind.i64 (↑k : Int)))), ((6 : Nat), AV.p true (PV.v (Value.int IntKind.i64 (f (↑k : Int).toNat)))), ((19 : Nat), AV.p true (PV.v (Value.bool (decide ((↑m : Int) ≤ (↑k : Int)))))), ((7 : Nat), AV.p true (PV.v (Value.int IntKind.i64 (g (↑k : Int).toNat)))), ((8 : Nat), AV.p true (PV.v (Value.int IntKind.i64 (cmp3 (f (↑k : Int).toNat) (g (↑k : Int).toNat))))), ((28 : Nat), AV.p true (PV.v (Value.bool (cmp3 (f (↑k : Int).toNat) (g (↑k : Int).toNat) != (0 : Int)))))] []))))))) (VC.split (decide ((↑n : Int) < (↑m : Int))) (VC.doneP (AV.p true (PV.v (Value.int IntKind.i64 (-1 : Int))))) (VC.doneP (AV.p true (PV.v (Value.int IntKind.i64 (0 : Int)))))) := by intros; kernel_rfl
theorem ev_less : ∀ (nn nn' : Bool) (n : Nat) (f : Nat → Int) (m : Nat) (g : Nat → Int), ev G0 res73 [] (3000 : Nat) Or.nil [Item.ir ir73] (start [IL nn n f, IL nn' m g] []) = VC.loop ir73_L1 [Item.bend (0 : Nat), Item.ir ir73_T2] (St.mk [((0 : Nat), AV.p false (PV.sl nn (1 : Nat) n fun (i x : Nat) => PI (f i))), ((1 : Nat), AV.p false (PV.sl nn' (1 : Nat) m fun (i x : Nat) => PI (g i))), ((4 : Nat), AV.p true (PV.v (Value.bool false))), ((5 : Nat), AV.p true (PV.v (Value.int IntKind.i64 (0 : Int))))] []) := by intros; kernel_rfl
def st_less (nn nn' : Bool) (n : Nat) (f : Nat → Int) (m : Nat) (g : Nat → Int) (k : Nat) : St := ⟨[(0, IL nn n f), (1, IL nn' m g), (5, AI k)], []⟩
theorem evr_less : ∀ (nn nn' : Bool) (n : Nat) (f : Nat → Int) (m : Nat) (g : Nat → Int) (I : Nat → St → Prop) (k : Nat), ev G0 res73 [] (3000 : Nat) (((Or.nil.split Or.nil).split Or.nil).lit.lit.lit.lit.split Or.nil.lit.lit.lit.lit.lit) [Item.ir ir73_L1, Item.lend (I k), Item.bend (0 : Nat), Item.ir ir73_T2] (st_less nn nn' n f m g k) = VC.split (decide ((↑k : Int) < (↑n : Int))) (VC.split (decide ((↑k : Int) < (↑m : Int))) (VC.need ((0 : Int) ≤ (↑k : Int) ∧ (↑k : Int).toNat < n) (VC.need ((0 : Int) ≤ (↑k : Int) ∧ (↑k : Int).toNat < m) (VC.split (f (↑k : Int).toNat != g (↑k : Int).toNat) (VC.need ((0 : Int) ≤ (↑k : Int) ∧ (↑k : Int).toNat < n) (VC.need ((0 : Int) ≤ (↑k : Int) ∧ (↑k : Int).toNat < m) (VC.doneP (AV.p true (PV.v (Value.bool (decide (f (↑k : Int).toNat < g (↑k : Int).toNat)))))))) (VC.lend (I k) (St.mk [((0 : Nat), AV.p false (PV.sl nn (1 : Nat) n fun (i x : Nat) => PI (f i))), ((1 : Nat), AV.p false (PV.sl nn' (1 : Nat) m fun (i x : Nat) => PI (g i))), ((5 : Nat), AV.p true (PV.v (Value.int IntKind.i64 (IntKind.i64.wrap ((↑k : Int) + (1 : Int)))))), ((15 : Nat), AV.p true (PV.v (Value.bool (decide ((↑k : Int) < (↑m : Int)))))), ((26 : Nat), AV.p true (PV.v (Value.bool (f (↑k : Int).toNat != g (↑k : Int).toNat))))] []))))) (VC.doneP (AV.p true (PV.v (Value.bool (decide ((↑n : Int) < (↑m : Int)))))))) (VC.doneP (AV.p true (PV.v (Value.bool (decide ((↑n : Int) < (↑m : Int))))))) := by intros; kernel_rfl
theorem c_cmpI (nn nn' : Bool) (n : Nat) (f : Nat → Int) (m : Nat) (g : Nat → Int) (hn : n ≤ 1048576) : PRet Tryd.prog G0 40 [IL nn n f, IL nn' m g] (AI (lexL (rowL n f 0) (rowL m g 0))) := by
  refine PRet.by chk40 (ev_cmpI nn nn' n f m g) ?_
  refine loop_by (st_cmpI nn nn' n f m g) (fun k => k ≤ n ∧ k ≤ m ∧ lexL (rowL n f 0) (rowL m g 0) = lexL (rowL n f k) (rowL m g k)) (fun k => n - k) 0 [] [] [] ⟨Nat.zero_le _, Nat.zero_le _, rfl⟩ ?_ (evr_cmpI nn nn' n f m g) fun k hk => ?_
  · simp [st_cmpI, hbs, St.lowers, St.lower, stLe, leEnv, leObs, obLe, injB, pinC, AV.leC, AV.leCs, PV.leC, PV.Le_v, St.get, St.obj, look, rho, isNew, keptC, renH, Mode.ok, Mode.isZ, PV.isVal, PV.isNilSl, List.all_nil, List.all_cons, List.any_nil, List.any_cons, List.map_nil, List.map_cons, PV.Le_self]
  · obtain ⟨hk, hkm, he⟩ := hk
    simp only [VC.holds_split, VC.holds_need, VC.holds_doneP, VC.holds_done, VC.holds_either, VC.holds_call, VC.holds_callE, VC.holds_lend, VC.holds_stop, VC.holds_fail, decide_eq_true_eq, decide_eq_false_iff_not, Int.toNat_natCast]
    refine ⟨fun h1 => ⟨by omega, fun h2 => ?_, fun h2 => ⟨by omega, c_cmp3 _ _, fun h3 => ?_, fun h3 => Again.mk (k + 1) [] [] [] ⟨by omega, by omega, ?_⟩ (by omega) ?_⟩⟩, fun h1 => ⟨fun h2 => ?_, fun h2 => ?_⟩⟩
    · rw [he, rowL_step (by omega), rowL_nil (show m ≤ k by omega)]
      simp [lexL]
    · rw [he, rowL_step (n := n) (by omega), rowL_step (n := m) (by omega)]
      simp only [bne_iff_ne, ne_eq, cmp3] at h3
      simp only [lexL, cmp3]
      by_cases h4 : f k < g k
      · simp [h4]
      · by_cases h5 : g k < f k
        · simp [h4, h5]
        · simp [h4, h5] at h3
    · rw [he, rowL_step (n := n) (by omega), rowL_step (n := m) (by omega)]
      have h3' : cmp3 (f k) (g k) = 0 := by simpa using h3
      simp only [cmp3] at h3'
      by_cases h4 : f k < g k
      · simp [h4] at h3'
      · by_cases h5 : g k < f k
        · simp [h4, h5] at h3'
        · simp [lexL, h4, h5]
    · have e1 : IntKind.i64.wrap ((k : Int) + 1) = ((k + 1 : Nat) : Int) := wrap_in (by omega) (by omega)
      simp [st_cmpI, hbs, St.lowers, St.lower, stLe, leEnv, leObs, obLe, injB, pinC, AV.leC, AV.leCs, PV.leC, PV.Le_v, St.get, St.obj, look, rho, isNew, keptC, renH, Mode.ok, Mode.isZ, PV.isVal, PV.isNilSl, List.all_nil, List.all_cons, List.any_nil, List.any_cons, List.map_nil, List.map_cons, PV.Le_self, e1]
    · rw [he, rowL_nil (show n ≤ k by omega), rowL_step (by omega)]
      simp [lexL]
    · rw [he, rowL_nil (show n ≤ k by omega), rowL_nil (show m ≤ k by omega)]
      simp [lexL]
theorem c_less (nn nn' : Bool) (n : Nat) (f : Nat → Int) (m : Nat) (g : Nat → Int) (hn : n ≤ 1048576) : PRet Tryd.prog G0 73 [IL nn n f, IL nn' m g] (AB (ltL (rowL n f 0) (rowL m g 0))) := by
  refine PRet.by chk73 (ev_less nn nn' n f m g) ?_
  refine loop_by (st_less nn nn' n f m g) (fun k => k ≤ n ∧ k ≤ m ∧ lexL (rowL n f 0) (rowL m g 0) = lexL (rowL n f k) (rowL m g k)) (fun k => n - k) 0 [] [] [] ⟨Nat.zero_le _, Nat.zero_le _, rfl⟩ ?_ (evr_less nn nn' n f m g) fun k hk => ?_
  · simp [st_less, hbs, St.lowers, St.lower, stLe, leEnv, leObs, obLe, injB, pinC, AV.leC, AV.leCs, PV.leC, PV.Le_v, St.get, St.obj, look, rho, isNew, keptC, renH, Mode.ok, Mode.isZ, PV.isVal, PV.isNilSl, List.all_nil, List.all_cons, List.any_nil, List.any_cons, List.map_nil, List.map_cons, PV.Le_self]
  · obtain ⟨hk, hkm, he⟩ := hk
    simp only [VC.holds_split, VC.holds_need, VC.holds_doneP, VC.holds_done, VC.holds_either, VC.holds_call, VC.holds_callE, VC.holds_lend, VC.holds_stop, VC.holds_fail, decide_eq_true_eq, decide_eq_false_iff_not, Int.toNat_natCast]
    refine ⟨fun h1 => ⟨fun h2 => ⟨by omega, by omega, fun h3 => ⟨by omega, by omega, ?_⟩, fun h3 => Again.mk (k + 1) [] [] [] ⟨by omega, by omega, ?_⟩ (by omega) ?_⟩, fun h2 => ?_⟩, fun h1 => ?_⟩
    · have h3 : ¬ f k = g k := by simpa using h3
      simp only [ltL]
      rw [he, rowL_step (n := n) (by omega), rowL_step (n := m) (by omega)]
      by_cases h4 : f k < g k
      · simp [lexL, h4]
      · simp [lexL, h4, show g k < f k by omega]
    · have h3 : f k = g k := by simpa using h3
      rw [he, rowL_step (n := n) (by omega), rowL_step (n := m) (by omega)]
      simp [lexL, h3]
    · have e1 : IntKind.i64.wrap ((k : Int) + 1) = ((k + 1 : Nat) : Int) := wrap_in (by omega) (by omega)
      simp [st_less, hbs, St.lowers, St.lower, stLe, leEnv, leObs, obLe, injB, pinC, AV.leC, AV.leCs, PV.leC, PV.Le_v, St.get, St.obj, look, rho, isNew, keptC, renH, Mode.ok, Mode.isZ, PV.isVal, PV.isNilSl, List.all_nil, List.all_cons, List.any_nil, List.any_cons, List.map_nil, List.map_cons, PV.Le_self, e1]
    · simp only [ltL]
      rw [he, rowL_step (n := n) (by omega), rowL_nil (show m ≤ k by omega)]
      simp [lexL]; omega
    · simp only [ltL]
      rw [he, rowL_nil (show n ≤ k by omega)]
      by_cases h4 : k < m
      · rw [rowL_step h4]; simp [lexL]; omega
      · rw [rowL_nil (show m ≤ k by omega)]; simp [lexL]; omega
/-! ### slices.SortFunc -/
abbrev srtA (m : Nat) (w : Nat → Nat) (h : Nat → Nat → Int) : List (List Int) := srtL ltL (tabL m w h)
theorem sort_has : ∃ fn, Tryd.prog.funcs[Tryd.laySort_ren.f 6]? = some fn ∧ fn.body.isSome = true ∧ (fn.name == "runtime.NumGoroutine") = false :=
  ⟨Tryd.f39, Tryd.func39, by kernel_rfl, by kernel_rfl⟩
theorem c_sortA (nn : Bool) (m : Nat) (w : Nat → Nat) (h : Nat → Nat → Int) (hm : m ≤ 1048576) (hw : ∀ i, i < m → w i ≤ 1048576) :
    PObj Tryd.prog G0 39 [.own 0, .cl 40 [] []] [(0, .row .u nn 1 m (RR w h) [])] (.tp []) [(0, .row .u nn 1 m (RR (wL (srtA m w h)) (hL (srtA m w h))) [])] := by
  refine sort_row (bs := []) (K := fun i => rowL (w i) (h i) 0) (cl := lexL) Tryd.laySort sort_has (fun p cap fv W => AnyF.slices_SortFunc_none { Tryd.laySort with } p cap fv W) lt_swo (el := fun i => RR w h i 0) (fun x y hx hy => ?_) (fun i hi => ⟨_, _, rfl⟩) (by omega) (fun π hs => ⟨fun i => RR (wL (srtA m w h)) (hL (srtA m w h)) i 0, fun i hi => srt_le lt_swo lt_anti hs hi, rfl, rfl⟩)
  exact c_cmpI false false _ _ _ _ (hw x hx)
end Go.Gw
